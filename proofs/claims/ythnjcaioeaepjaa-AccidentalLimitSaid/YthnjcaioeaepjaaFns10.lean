/-
  The translation's functions in the abstract machine's code, written by program; the kernel holds each against the translation.
-/
import Derived.Test.YthnjcaioeaepjaaChecked
import Derived.Test.YthnjcaioeaepjaaAbLim
namespace Go.Proofs.Ythnjcaioeaepjaa
open Go Go.Ab
set_option maxRecDepth 100000

def a2 : AFunc := ⟨[],
 .region [] [
   ⟨some 0, .call 0 (.c (.fn 1 [])) [], none⟩]⟩

def a3 : AFunc := ⟨[.tmp 4],
 (.seq (
  .region [] [
    ⟨some 4, .mv (.c (.bool false)), none⟩]) (
  (.seq (
   (.seq (
    .region [] [
      ⟨some 10, .call 0 (.c (.fn 13 [])) [], none⟩,
      ⟨some 11, .not (.t 10), none⟩,
      ⟨some 12, .mv (.t 11), none⟩,
      ⟨some 13, .mv (.t 1), some (12, false)⟩,
      ⟨some 14, .len (.t 13), some (12, false)⟩,
      ⟨some 15, .bin .gtr (.t 14) (.c (.int .i64 30)), some (12, false)⟩,
      ⟨some 16, .pick (.t 12) (.c (.bool true)) (.t 15), none⟩]) (
    (.cond (.t 16) (
     (.seq (
      .region [] [
        ⟨some 17, .call 0 (.c (.fn 13 [])) [], none⟩,
        ⟨some 4, .mv (.t 17), none⟩]) (
      .ret))) (
     .skip))))) (
   (.seq (
    .region [] [
      ⟨some 19, .mv (.t 0), none⟩,
      ⟨some 20, .mv (.t 1), none⟩,
      ⟨some 21, .call 0 (.c (.fn 15 [])) [(.t 20)], none⟩,
      ⟨some 22, .call 0 (.c (.fn 14 [])) [(.t 19), (.t 21)], none⟩,
      ⟨some 18, .mv (.t 22), none⟩,
      ⟨some 23, .ext (.t 18) 0, none⟩,
      ⟨some 24, .ext (.t 18) 1, none⟩,
      ⟨some 5, .mv (.t 23), none⟩,
      ⟨some 6, .mv (.t 24), none⟩]) (
    (.seq (
     (.seq (
      .region [] [
        ⟨some 25, .mv (.t 0), none⟩,
        ⟨some 26, .mv (.t 1), none⟩,
        ⟨some 27, .call 0 (.c (.fn 16 [])) [(.t 25), (.t 26)], none⟩,
        ⟨some 7, .mv (.t 27), none⟩]) (
      (.seq (
       .region [] [
         ⟨some 28, .mv (.t 7), none⟩,
         ⟨some 29, .bin .neq (.t 28) (.c (.int .i64 0)), none⟩]) (
       (.cond (.t 29) (
        (.seq (
         .region [] [
           ⟨some 30, .mv (.t 6), none⟩,
           ⟨some 31, .mv (.t 7), none⟩,
           ⟨some 32, .bin .eql (.t 30) (.t 31), none⟩,
           ⟨some 33, .mv (.t 32), none⟩,
           ⟨some 34, .mv (.t 5), some (33, true)⟩,
           ⟨some 35, .len (.t 34), some (33, true)⟩,
           ⟨some 36, .bin .eql (.t 35) (.c (.int .i64 0)), some (33, true)⟩,
           ⟨some 37, .pick (.t 33) (.t 36) (.c (.bool false)), none⟩,
           ⟨some 4, .mv (.t 37), none⟩]) (
         .ret))) (
        .skip))))))) (
     (.seq (
      .region [] [
        ⟨some 39, .mv (.t 0), none⟩,
        ⟨some 40, .mv (.t 1), none⟩,
        ⟨some 41, .call 0 (.c (.fn 17 [])) [(.t 39), (.t 40)], none⟩,
        ⟨some 38, .mv (.t 41), none⟩,
        ⟨some 42, .ext (.t 38) 0, none⟩,
        ⟨some 43, .ext (.t 38) 1, none⟩,
        ⟨some 8, .mv (.t 42), none⟩,
        ⟨some 9, .mv (.t 43), none⟩]) (
      (.seq (
       .region [] [
         ⟨some 44, .mv (.t 6), none⟩,
         ⟨some 45, .bin .eql (.t 44) (.c (.int .i64 0)), none⟩,
         ⟨some 46, .mv (.t 45), none⟩,
         ⟨some 47, .mv (.t 5), some (46, true)⟩,
         ⟨some 48, .mv (.t 8), some (46, true)⟩,
         ⟨some 49, .call 0 (.c (.fn 18 [])) [(.t 47), (.t 48)], some (46, true)⟩,
         ⟨some 50, .pick (.t 46) (.t 49) (.c (.bool false)), none⟩,
         ⟨some 4, .mv (.t 50), none⟩]) (
       .ret))))))))))))⟩

def a4 : AFunc := ⟨[.tmp 4],
 (.seq (
  .region [] [
    ⟨some 4, .mv (.c (.bool false)), none⟩]) (
  (.seq (
   (.seq (
    .region [] [
      ⟨some 10, .callf 0 (.c (.fn 13 [])) [], none⟩,
      ⟨some 11, .not (.t 10), none⟩,
      ⟨some 12, .mv (.t 11), none⟩,
      ⟨some 13, .mv (.t 1), some (12, false)⟩,
      ⟨some 14, .len (.t 13), some (12, false)⟩,
      ⟨some 15, .bin .gtr (.t 14) (.c (.int .i64 30)), some (12, false)⟩,
      ⟨some 16, .pick (.t 12) (.c (.bool true)) (.t 15), none⟩,
      ⟨some 17, .mv (.t 16), none⟩,
      ⟨some 18, .mv (.t 0), some (17, false)⟩,
      ⟨some 19, .mv (.t 1), some (17, false)⟩,
      ⟨some 20, .callf 0 (.c (.fn 16 [])) [(.t 18), (.t 19)], some (17, false)⟩,
      ⟨some 21, .bin .neq (.t 20) (.c (.int .i64 0)), some (17, false)⟩,
      ⟨some 22, .pick (.t 17) (.c (.bool true)) (.t 21), none⟩]) (
    (.cond (.t 22) (
     (.seq (
      .region [] [
        ⟨some 23, .callf 0 (.c (.fn 13 [])) [], none⟩,
        ⟨some 4, .mv (.t 23), none⟩]) (
      .ret))) (
     .skip))))) (
   (.seq (
    .region [] [
      ⟨some 24, .lit 6 [(.int .i64 0), (.int .i64 0), (.int .i64 0), (.int .i64 0), (.bool false), (.int .i64 0)] 0 [], none⟩,
      ⟨some 25, .mv (.t 1), none⟩,
      ⟨some 26, .app 1 6 48 (.t 24) (.t 25), none⟩,
      ⟨some 5, .mv (.t 26), none⟩]) (
    (.seq (
     (.seq (
      .region [] [
        ⟨some 6, .mv (.c (.int .i64 0)), none⟩]) (
      (.block 0 (
       (.loop (
        (.seq (
         (.seq (
          .region [] [
            ⟨some 27, .mv (.t 6), none⟩,
            ⟨some 28, .mv (.t 5), none⟩,
            ⟨some 29, .len (.t 28), none⟩,
            ⟨some 30, .bin .lss (.t 27) (.t 29), none⟩]) (
          (.cond (.t 30) (
           .skip) (
           .exit 0))))) (
         (.seq (
          (.block 1 (
           .region [] [
             ⟨some 33, .mv (.t 5), none⟩,
             ⟨some 34, .mv (.t 6), none⟩,
             ⟨some 35, .mv (.t 5), none⟩,
             ⟨some 36, .mv (.t 6), none⟩,
             ⟨some 37, .mv (.t 0), none⟩,
             ⟨some 38, .mv (.t 5), none⟩,
             ⟨some 39, .mv (.t 6), none⟩,
             ⟨some 40, .elemAddr 6 (.t 38) (.t 39), none⟩,
             ⟨some 41, .fieldAddr 1 (.t 40), none⟩,
             ⟨some 42, .fieldAddr 0 (.t 41), none⟩,
             ⟨some 43, .load false 1 (.t 42), none⟩,
             ⟨some 44, .callf 0 (.c (.fn 19 [])) [(.t 37), (.t 43)], none⟩,
             ⟨some 45, .elemAddr 6 (.t 33) (.t 34), none⟩,
             ⟨some 46, .fieldAddr 1 (.t 45), none⟩,
             ⟨some 47, .fieldAddr 1 (.t 46), none⟩,
             ⟨none, .store 1 (.t 47) (.t 44), none⟩,
             ⟨some 48, .elemAddr 6 (.t 35) (.t 36), none⟩,
             ⟨some 49, .fieldAddr 5 (.t 48), none⟩,
             ⟨none, .store 1 (.t 49) (.c (.int .i64 0)), none⟩]))) (
          .region [] [
            ⟨some 31, .mv (.t 6), none⟩,
            ⟨some 32, .bin .add (.t 31) (.c (.int .i64 1)), none⟩,
            ⟨some 6, .mv (.t 32), none⟩]))))))))))) (
     (.seq (
      .region [] [
        ⟨some 51, .mv (.t 0), none⟩,
        ⟨some 52, .mv (.t 5), none⟩,
        ⟨some 53, .callf 0 (.c (.fn 15 [])) [(.t 52)], none⟩,
        ⟨some 54, .callf 0 (.c (.fn 14 [])) [(.t 51), (.t 53)], none⟩,
        ⟨some 50, .mv (.t 54), none⟩,
        ⟨some 55, .ext (.t 50) 0, none⟩,
        ⟨some 56, .ext (.t 50) 1, none⟩,
        ⟨some 7, .mv (.t 55), none⟩,
        ⟨some 8, .mv (.t 56), none⟩]) (
      (.seq (
       (.seq (
        .region [] [
          ⟨some 9, .mv (.c (.int .i64 0)), none⟩]) (
        (.block 2 (
         (.loop (
          (.seq (
           (.seq (
            .region [] [
              ⟨some 57, .mv (.t 9), none⟩,
              ⟨some 58, .mv (.t 7), none⟩,
              ⟨some 59, .len (.t 58), none⟩,
              ⟨some 60, .bin .lss (.t 57) (.t 59), none⟩]) (
            (.cond (.t 60) (
             .skip) (
             .exit 2))))) (
           (.seq (
            (.block 3 (
             (.seq (
              .region [] [
                ⟨some 63, .mv (.t 7), none⟩,
                ⟨some 64, .mv (.t 9), none⟩,
                ⟨some 65, .elemAddr 2 (.t 63) (.t 64), none⟩,
                ⟨some 66, .load true 2 (.t 65), none⟩,
                ⟨some 67, .build [(.int .i64 0), (.bool false)] [], none⟩,
                ⟨some 68, .eqagg [false, true] true (.t 66) (.t 67), none⟩]) (
              (.cond (.t 68) (
               (.seq (
                .region [] [
                  ⟨some 4, .mv (.c (.bool false)), none⟩]) (
                .ret))) (
               .skip))))))) (
            .region [] [
              ⟨some 61, .mv (.t 9), none⟩,
              ⟨some 62, .bin .add (.t 61) (.c (.int .i64 1)), none⟩,
              ⟨some 9, .mv (.t 62), none⟩]))))))))))) (
       (.seq (
        .region [] [
          ⟨some 69, .mv (.t 8), none⟩,
          ⟨some 70, .bin .eql (.t 69) (.c (.int .i64 0)), none⟩,
          ⟨some 71, .mv (.t 70), none⟩,
          ⟨some 72, .mv (.t 7), some (71, true)⟩,
          ⟨some 73, .len (.t 72), some (71, true)⟩,
          ⟨some 74, .mv (.t 1), some (71, true)⟩,
          ⟨some 75, .len (.t 74), some (71, true)⟩,
          ⟨some 76, .bin .eql (.t 73) (.t 75), some (71, true)⟩,
          ⟨some 77, .pick (.t 71) (.t 76) (.c (.bool false)), none⟩,
          ⟨some 4, .mv (.t 77), none⟩]) (
        .ret))))))))))))))⟩

def a5 : AFunc := ⟨[.tmp 4],
 (.seq (
  .region [] [
    ⟨some 4, .mv (.c (.bool false)), none⟩]) (
  (.seq (
   (.seq (
    .region [] [
      ⟨some 8, .call 0 (.c (.fn 13 [])) [], none⟩,
      ⟨some 9, .not (.t 8), none⟩,
      ⟨some 10, .mv (.t 9), none⟩,
      ⟨some 11, .mv (.t 1), some (10, false)⟩,
      ⟨some 12, .len (.t 11), some (10, false)⟩,
      ⟨some 13, .bin .gtr (.t 12) (.c (.int .i64 30)), some (10, false)⟩,
      ⟨some 14, .pick (.t 10) (.c (.bool true)) (.t 13), none⟩,
      ⟨some 15, .mv (.t 14), none⟩,
      ⟨some 16, .mv (.t 0), some (15, false)⟩,
      ⟨some 17, .mv (.t 1), some (15, false)⟩,
      ⟨some 18, .call 0 (.c (.fn 16 [])) [(.t 16), (.t 17)], some (15, false)⟩,
      ⟨some 19, .bin .neq (.t 18) (.c (.int .i64 0)), some (15, false)⟩,
      ⟨some 20, .pick (.t 15) (.c (.bool true)) (.t 19), none⟩]) (
    (.cond (.t 20) (
     (.seq (
      .region [] [
        ⟨some 21, .call 0 (.c (.fn 13 [])) [], none⟩,
        ⟨some 4, .mv (.t 21), none⟩]) (
      .ret))) (
     .skip))))) (
   (.seq (
    .region [] [
      ⟨some 23, .mv (.t 0), none⟩,
      ⟨some 24, .mv (.t 1), none⟩,
      ⟨some 25, .call 0 (.c (.fn 15 [])) [(.t 24)], none⟩,
      ⟨some 26, .call 0 (.c (.fn 14 [])) [(.t 23), (.t 25)], none⟩,
      ⟨some 22, .mv (.t 26), none⟩,
      ⟨some 27, .ext (.t 22) 0, none⟩,
      ⟨some 28, .ext (.t 22) 1, none⟩,
      ⟨some 5, .mv (.t 27), none⟩,
      ⟨some 6, .mv (.t 28), none⟩]) (
    (.seq (
     (.seq (
      .region [] [
        ⟨some 29, .mv (.t 6), none⟩,
        ⟨some 30, .bin .neq (.t 29) (.c (.int .i64 0)), none⟩,
        ⟨some 31, .mv (.t 30), none⟩,
        ⟨some 32, .mv (.t 5), some (31, false)⟩,
        ⟨some 33, .len (.t 32), some (31, false)⟩,
        ⟨some 34, .mv (.t 1), some (31, false)⟩,
        ⟨some 35, .len (.t 34), some (31, false)⟩,
        ⟨some 36, .bin .neq (.t 33) (.t 35), some (31, false)⟩,
        ⟨some 37, .pick (.t 31) (.c (.bool true)) (.t 36), none⟩]) (
      (.cond (.t 37) (
       (.seq (
        .region [] [
          ⟨some 4, .mv (.c (.bool false)), none⟩]) (
        .ret))) (
       .skip))))) (
     (.seq (
      (.seq (
       .region [] [
         ⟨some 7, .mv (.c (.int .i64 0)), none⟩]) (
       (.block 0 (
        (.loop (
         (.seq (
          (.seq (
           .region [] [
             ⟨some 38, .mv (.t 7), none⟩,
             ⟨some 39, .mv (.t 5), none⟩,
             ⟨some 40, .len (.t 39), none⟩,
             ⟨some 41, .bin .lss (.t 38) (.t 40), none⟩]) (
           (.cond (.t 41) (
            .skip) (
            .exit 0))))) (
          (.seq (
           (.block 1 (
            (.seq (
             .region [] [
               ⟨some 44, .mv (.t 1), none⟩,
               ⟨some 45, .mv (.t 7), none⟩,
               ⟨some 46, .elemAddr 6 (.t 44) (.t 45), none⟩,
               ⟨some 47, .fieldAddr 5 (.t 46), none⟩,
               ⟨some 48, .load false 1 (.t 47), none⟩,
               ⟨some 49, .bin .neq (.t 48) (.c (.int .i64 0)), none⟩,
               ⟨some 50, .mv (.t 49), none⟩,
               ⟨some 51, .mv (.t 5), some (50, true)⟩,
               ⟨some 52, .mv (.t 7), some (50, true)⟩,
               ⟨some 53, .elemAddr 2 (.t 51) (.t 52), some (50, true)⟩,
               ⟨some 54, .fieldAddr 0 (.t 53), some (50, true)⟩,
               ⟨some 55, .load false 1 (.t 54), some (50, true)⟩,
               ⟨some 56, .bin .eql (.t 55) (.c (.int .i64 0)), some (50, true)⟩,
               ⟨some 57, .pick (.t 50) (.t 56) (.c (.bool false)), none⟩,
               ⟨some 58, .mv (.t 57), none⟩,
               ⟨some 59, .mv (.t 5), some (58, false)⟩,
               ⟨some 60, .mv (.t 7), some (58, false)⟩,
               ⟨some 61, .elemAddr 2 (.t 59) (.t 60), some (58, false)⟩,
               ⟨some 62, .fieldAddr 1 (.t 61), some (58, false)⟩,
               ⟨some 63, .load false 1 (.t 62), some (58, false)⟩,
               ⟨some 64, .mv (.t 63), some (58, false)⟩,
               ⟨some 65, .mv (.t 1), some (64, true)⟩,
               ⟨some 66, .mv (.t 7), some (64, true)⟩,
               ⟨some 67, .elemAddr 6 (.t 65) (.t 66), some (64, true)⟩,
               ⟨some 68, .fieldAddr 5 (.t 67), some (64, true)⟩,
               ⟨some 69, .load false 1 (.t 68), some (64, true)⟩,
               ⟨some 70, .bin .neq (.t 69) (.c (.int .i64 2)), some (64, true)⟩,
               ⟨some 71, .pick (.t 64) (.t 70) (.c (.bool false)), some (58, false)⟩,
               ⟨some 72, .pick (.t 58) (.c (.bool true)) (.t 71), none⟩,
               ⟨some 73, .mv (.t 72), none⟩,
               ⟨some 74, .mv (.t 5), some (73, false)⟩,
               ⟨some 75, .mv (.t 7), some (73, false)⟩,
               ⟨some 76, .elemAddr 2 (.t 74) (.t 75), some (73, false)⟩,
               ⟨some 77, .fieldAddr 0 (.t 76), some (73, false)⟩,
               ⟨some 78, .load false 1 (.t 77), some (73, false)⟩,
               ⟨some 79, .bin .neq (.t 78) (.c (.int .i64 0)), some (73, false)⟩,
               ⟨some 80, .mv (.t 79), some (73, false)⟩,
               ⟨some 81, .mv (.t 5), some (80, true)⟩,
               ⟨some 82, .mv (.t 7), some (80, true)⟩,
               ⟨some 83, .elemAddr 2 (.t 81) (.t 82), some (80, true)⟩,
               ⟨some 84, .fieldAddr 0 (.t 83), some (80, true)⟩,
               ⟨some 85, .load false 1 (.t 84), some (80, true)⟩,
               ⟨some 86, .mv (.t 1), some (80, true)⟩,
               ⟨some 87, .mv (.t 7), some (80, true)⟩,
               ⟨some 88, .elemAddr 6 (.t 86) (.t 87), some (80, true)⟩,
               ⟨some 89, .fieldAddr 1 (.t 88), some (80, true)⟩,
               ⟨some 90, .fieldAddr 1 (.t 89), some (80, true)⟩,
               ⟨some 91, .load false 1 (.t 90), some (80, true)⟩,
               ⟨some 92, .bin .add (.t 91) (.c (.int .i64 3)), some (80, true)⟩,
               ⟨some 93, .bin .neq (.t 85) (.t 92), some (80, true)⟩,
               ⟨some 94, .pick (.t 80) (.t 93) (.c (.bool false)), some (73, false)⟩,
               ⟨some 95, .pick (.t 73) (.c (.bool true)) (.t 94), none⟩]) (
             (.cond (.t 95) (
              (.seq (
               .region [] [
                 ⟨some 4, .mv (.c (.bool false)), none⟩]) (
               .ret))) (
              .skip))))))) (
           .region [] [
             ⟨some 42, .mv (.t 7), none⟩,
             ⟨some 43, .bin .add (.t 42) (.c (.int .i64 1)), none⟩,
             ⟨some 7, .mv (.t 43), none⟩]))))))))))) (
      (.seq (
       .region [] [
         ⟨some 4, .mv (.c (.bool true)), none⟩]) (
       .ret))))))))))))⟩

def a6 : AFunc := ⟨[.tmp 6],
 (.seq (
  .region [] [
    ⟨some 6, .mv (.c (.bool false)), none⟩]) (
  (.seq (
   (.seq (
    .region [] [
      ⟨some 13, .call 0 (.c (.fn 13 [])) [], none⟩,
      ⟨some 14, .not (.t 13), none⟩,
      ⟨some 15, .mv (.t 14), none⟩,
      ⟨some 16, .mv (.t 1), some (15, false)⟩,
      ⟨some 17, .len (.t 16), some (15, false)⟩,
      ⟨some 18, .bin .gtr (.t 17) (.c (.int .i64 30)), some (15, false)⟩,
      ⟨some 19, .pick (.t 15) (.c (.bool true)) (.t 18), none⟩,
      ⟨some 20, .mv (.t 19), none⟩,
      ⟨some 21, .mv (.t 0), some (20, false)⟩,
      ⟨some 22, .mv (.t 1), some (20, false)⟩,
      ⟨some 23, .call 0 (.c (.fn 16 [])) [(.t 21), (.t 22)], some (20, false)⟩,
      ⟨some 24, .bin .neq (.t 23) (.c (.int .i64 0)), some (20, false)⟩,
      ⟨some 25, .pick (.t 20) (.c (.bool true)) (.t 24), none⟩]) (
    (.cond (.t 25) (
     (.seq (
      .region [] [
        ⟨some 26, .call 0 (.c (.fn 13 [])) [], none⟩,
        ⟨some 6, .mv (.t 26), none⟩]) (
      .ret))) (
     .skip))))) (
   (.seq (
    .region [] [
      ⟨some 7, .mv (.c (.int .i64 0)), none⟩]) (
    (.seq (
     (.block 0 (
      (.loop (
       (.seq (
        (.seq (
         .region [] [
           ⟨some 27, .mv (.t 7), none⟩,
           ⟨some 28, .mv (.t 1), none⟩,
           ⟨some 29, .len (.t 28), none⟩,
           ⟨some 30, .bin .lss (.t 27) (.t 29), none⟩,
           ⟨some 31, .mv (.t 30), none⟩,
           ⟨some 32, .mv (.t 1), some (31, true)⟩,
           ⟨some 33, .mv (.t 7), some (31, true)⟩,
           ⟨some 34, .elemAddr 6 (.t 32) (.t 33), some (31, true)⟩,
           ⟨some 35, .fieldAddr 0 (.t 34), some (31, true)⟩,
           ⟨some 36, .load false 1 (.t 35), some (31, true)⟩,
           ⟨some 37, .mv (.t 2), some (31, true)⟩,
           ⟨some 38, .bin .lss (.t 36) (.t 37), some (31, true)⟩,
           ⟨some 39, .pick (.t 31) (.t 38) (.c (.bool false)), none⟩]) (
         (.cond (.t 39) (
          .skip) (
          .exit 0))))) (
        (.block 1 (
         .region [] [
           ⟨some 40, .mv (.t 7), none⟩,
           ⟨some 41, .bin .add (.t 40) (.c (.int .i64 1)), none⟩,
           ⟨some 7, .mv (.t 41), none⟩]))))))))) (
     (.seq (
      .region [] [
        ⟨some 43, .mv (.t 0), none⟩,
        ⟨some 44, .mv (.t 1), none⟩,
        ⟨some 45, .call 0 (.c (.fn 15 [])) [(.t 44)], none⟩,
        ⟨some 46, .call 0 (.c (.fn 14 [])) [(.t 43), (.t 45)], none⟩,
        ⟨some 42, .mv (.t 46), none⟩,
        ⟨some 47, .ext (.t 42) 0, none⟩,
        ⟨some 48, .ext (.t 42) 1, none⟩,
        ⟨some 8, .mv (.t 47), none⟩,
        ⟨some 9, .mv (.t 48), none⟩]) (
      (.seq (
       .region [] [
         ⟨some 50, .mv (.t 0), none⟩,
         ⟨some 51, .mv (.t 1), none⟩,
         ⟨some 52, .mv (.t 7), none⟩,
         ⟨some 53, .sub 6 (.t 51) none (some (.t 52)) none, none⟩,
         ⟨some 54, .call 0 (.c (.fn 15 [])) [(.t 53)], none⟩,
         ⟨some 55, .call 0 (.c (.fn 14 [])) [(.t 50), (.t 54)], none⟩,
         ⟨some 49, .mv (.t 55), none⟩,
         ⟨some 56, .ext (.t 49) 0, none⟩,
         ⟨some 57, .ext (.t 49) 1, none⟩,
         ⟨some 10, .mv (.t 56), none⟩,
         ⟨some 11, .mv (.t 57), none⟩]) (
       (.seq (
        (.seq (
         .region [] [
           ⟨some 58, .mv (.t 9), none⟩,
           ⟨some 59, .bin .neq (.t 58) (.c (.int .i64 0)), none⟩,
           ⟨some 60, .mv (.t 59), none⟩,
           ⟨some 61, .mv (.t 11), some (60, false)⟩,
           ⟨some 62, .bin .neq (.t 61) (.c (.int .i64 0)), some (60, false)⟩,
           ⟨some 63, .pick (.t 60) (.c (.bool true)) (.t 62), none⟩,
           ⟨some 64, .mv (.t 63), none⟩,
           ⟨some 65, .mv (.t 8), some (64, false)⟩,
           ⟨some 66, .len (.t 65), some (64, false)⟩,
           ⟨some 67, .mv (.t 1), some (64, false)⟩,
           ⟨some 68, .len (.t 67), some (64, false)⟩,
           ⟨some 69, .bin .neq (.t 66) (.t 68), some (64, false)⟩,
           ⟨some 70, .pick (.t 64) (.c (.bool true)) (.t 69), none⟩,
           ⟨some 71, .mv (.t 70), none⟩,
           ⟨some 72, .mv (.t 10), some (71, false)⟩,
           ⟨some 73, .len (.t 72), some (71, false)⟩,
           ⟨some 74, .mv (.t 7), some (71, false)⟩,
           ⟨some 75, .bin .neq (.t 73) (.t 74), some (71, false)⟩,
           ⟨some 76, .pick (.t 71) (.c (.bool true)) (.t 75), none⟩]) (
         (.cond (.t 76) (
          (.seq (
           .region [] [
             ⟨some 6, .mv (.c (.bool false)), none⟩]) (
           .ret))) (
          .skip))))) (
        (.seq (
         (.seq (
          .region [] [
            ⟨some 12, .mv (.c (.int .i64 0)), none⟩]) (
          (.block 2 (
           (.loop (
            (.seq (
             (.seq (
              .region [] [
                ⟨some 77, .mv (.t 12), none⟩,
                ⟨some 78, .mv (.t 7), none⟩,
                ⟨some 79, .bin .lss (.t 77) (.t 78), none⟩]) (
              (.cond (.t 79) (
               .skip) (
               .exit 2))))) (
             (.seq (
              (.block 3 (
               (.seq (
                .region [] [
                  ⟨some 82, .mv (.t 10), none⟩,
                  ⟨some 83, .mv (.t 12), none⟩,
                  ⟨some 84, .elemAddr 2 (.t 82) (.t 83), none⟩,
                  ⟨some 85, .load true 2 (.t 84), none⟩,
                  ⟨some 86, .mv (.t 8), none⟩,
                  ⟨some 87, .mv (.t 12), none⟩,
                  ⟨some 88, .elemAddr 2 (.t 86) (.t 87), none⟩,
                  ⟨some 89, .load true 2 (.t 88), none⟩,
                  ⟨some 90, .eqagg [false, true] true (.t 85) (.t 89), none⟩]) (
                (.cond (.t 90) (
                 (.seq (
                  .region [] [
                    ⟨some 6, .mv (.c (.bool false)), none⟩]) (
                  .ret))) (
                 .skip))))))) (
              .region [] [
                ⟨some 80, .mv (.t 12), none⟩,
                ⟨some 81, .bin .add (.t 80) (.c (.int .i64 1)), none⟩,
                ⟨some 12, .mv (.t 81), none⟩]))))))))))) (
         (.seq (
          .region [] [
            ⟨some 6, .mv (.c (.bool true)), none⟩]) (
          .ret))))))))))))))))))⟩

def a7 : AFunc := ⟨[.tmp 4],
 (.seq (
  .region [] [
    ⟨some 4, .mv (.c (.bool false)), none⟩]) (
  (.seq (
   .region [] [
     ⟨some 10, .mv (.t 0), none⟩,
     ⟨some 11, .call 0 (.c (.fn 20 [])) [(.t 10)], none⟩,
     ⟨some 9, .mv (.t 11), none⟩,
     ⟨some 12, .ext (.t 9) 0, none⟩,
     ⟨some 13, .ext (.t 9) 1, none⟩,
     ⟨some 5, .mv (.t 12), none⟩,
     ⟨some 6, .mv (.t 13), none⟩]) (
   (.seq (
    .region [] [
      ⟨some 15, .mv (.t 1), none⟩,
      ⟨some 16, .call 0 (.c (.fn 21 [])) [(.t 15)], none⟩,
      ⟨some 14, .mv (.t 16), none⟩,
      ⟨some 17, .ext (.t 14) 0, none⟩,
      ⟨some 18, .ext (.t 14) 1, none⟩,
      ⟨some 7, .mv (.t 17), none⟩,
      ⟨some 8, .mv (.t 18), none⟩]) (
    (.seq (
     (.seq (
      .region [] [
        ⟨some 19, .call 0 (.c (.fn 13 [])) [], none⟩,
        ⟨some 20, .not (.t 19), none⟩,
        ⟨some 21, .mv (.t 20), none⟩,
        ⟨some 22, .mv (.t 6), some (21, false)⟩,
        ⟨some 23, .bin .eql (.t 22) (.c (.int .i64 0)), some (21, false)⟩,
        ⟨some 24, .mv (.t 0), some (21, false)⟩,
        ⟨some 25, .bin .geq (.t 24) (.c (.int .i64 (-2))), some (21, false)⟩,
        ⟨some 26, .mv (.t 25), some (21, false)⟩,
        ⟨some 27, .mv (.t 0), some (26, true)⟩,
        ⟨some 28, .bin .leq (.t 27) (.c (.int .i64 2)), some (26, true)⟩,
        ⟨some 29, .pick (.t 26) (.t 28) (.c (.bool false)), some (21, false)⟩,
        ⟨some 30, .eqb true (.t 23) (.t 29), some (21, false)⟩,
        ⟨some 31, .pick (.t 21) (.c (.bool true)) (.t 30), none⟩,
        ⟨some 32, .mv (.t 31), none⟩,
        ⟨some 33, .mv (.t 8), some (32, false)⟩,
        ⟨some 34, .bin .eql (.t 33) (.c (.int .i64 0)), some (32, false)⟩,
        ⟨some 35, .mv (.t 1), some (32, false)⟩,
        ⟨some 36, .bin .geq (.t 35) (.c (.int .i64 1)), some (32, false)⟩,
        ⟨some 37, .mv (.t 36), some (32, false)⟩,
        ⟨some 38, .mv (.t 1), some (37, true)⟩,
        ⟨some 39, .bin .leq (.t 38) (.c (.int .i64 5)), some (37, true)⟩,
        ⟨some 40, .pick (.t 37) (.t 39) (.c (.bool false)), some (32, false)⟩,
        ⟨some 41, .eqb true (.t 34) (.t 40), some (32, false)⟩,
        ⟨some 42, .pick (.t 32) (.c (.bool true)) (.t 41), none⟩]) (
      (.cond (.t 42) (
       (.seq (
        .region [] [
          ⟨some 4, .mv (.c (.bool false)), none⟩]) (
        .ret))) (
       .skip))))) (
     (.seq (
      .region [] [
        ⟨some 43, .mv (.t 6), none⟩,
        ⟨some 44, .bin .eql (.t 43) (.c (.int .i64 0)), none⟩,
        ⟨some 45, .mv (.t 44), none⟩,
        ⟨some 46, .mv (.t 5), some (45, true)⟩,
        ⟨some 47, .mv (.t 0), some (45, true)⟩,
        ⟨some 48, .bin .add (.t 47) (.c (.int .i64 3)), some (45, true)⟩,
        ⟨some 49, .bin .eql (.t 46) (.t 48), some (45, true)⟩,
        ⟨some 50, .pick (.t 45) (.t 49) (.c (.bool false)), none⟩,
        ⟨some 51, .mv (.t 50), none⟩,
        ⟨some 52, .mv (.t 6), some (51, false)⟩,
        ⟨some 53, .bin .eql (.t 52) (.c (.int .i64 2)), some (51, false)⟩,
        ⟨some 54, .mv (.t 53), some (51, false)⟩,
        ⟨some 55, .mv (.t 5), some (54, true)⟩,
        ⟨some 56, .bin .eql (.t 55) (.c (.int .i64 0)), some (54, true)⟩,
        ⟨some 57, .pick (.t 54) (.t 56) (.c (.bool false)), some (51, false)⟩,
        ⟨some 58, .pick (.t 51) (.c (.bool true)) (.t 57), none⟩,
        ⟨some 59, .mv (.t 58), none⟩,
        ⟨some 60, .mv (.t 8), some (59, true)⟩,
        ⟨some 61, .bin .eql (.t 60) (.c (.int .i64 0)), some (59, true)⟩,
        ⟨some 62, .mv (.t 61), some (59, true)⟩,
        ⟨some 63, .mv (.t 7), some (62, true)⟩,
        ⟨some 64, .mv (.t 1), some (62, true)⟩,
        ⟨some 65, .bin .sub (.t 64) (.c (.int .i64 3)), some (62, true)⟩,
        ⟨some 66, .bin .eql (.t 63) (.t 65), some (62, true)⟩,
        ⟨some 67, .pick (.t 62) (.t 66) (.c (.bool false)), some (59, true)⟩,
        ⟨some 68, .mv (.t 67), some (59, true)⟩,
        ⟨some 69, .mv (.t 8), some (68, false)⟩,
        ⟨some 70, .bin .eql (.t 69) (.c (.int .i64 11)), some (68, false)⟩,
        ⟨some 71, .mv (.t 70), some (68, false)⟩,
        ⟨some 72, .mv (.t 7), some (71, true)⟩,
        ⟨some 73, .bin .eql (.t 72) (.c (.int .i64 0)), some (71, true)⟩,
        ⟨some 74, .pick (.t 71) (.t 73) (.c (.bool false)), some (68, false)⟩,
        ⟨some 75, .pick (.t 68) (.c (.bool true)) (.t 74), some (59, true)⟩,
        ⟨some 76, .pick (.t 59) (.t 75) (.c (.bool false)), none⟩,
        ⟨some 4, .mv (.t 76), none⟩]) (
      .ret))))))))))⟩

def a8 : AFunc := ⟨[.tmp 4],
 (.seq (
  .region [] [
    ⟨some 4, .mv (.c (.bool false)), none⟩]) (
  (.seq (
   (.seq (
    .region [] [
      ⟨some 11, .call 0 (.c (.fn 13 [])) [], none⟩,
      ⟨some 12, .not (.t 11), none⟩,
      ⟨some 13, .mv (.t 12), none⟩,
      ⟨some 14, .mv (.t 1), some (13, false)⟩,
      ⟨some 15, .len (.t 14), some (13, false)⟩,
      ⟨some 16, .bin .gtr (.t 15) (.c (.int .i64 30)), some (13, false)⟩,
      ⟨some 17, .pick (.t 13) (.c (.bool true)) (.t 16), none⟩]) (
    (.cond (.t 17) (
     (.seq (
      .region [] [
        ⟨some 18, .call 0 (.c (.fn 13 [])) [], none⟩,
        ⟨some 4, .mv (.t 18), none⟩]) (
      .ret))) (
     .skip))))) (
   (.seq (
    .region [] [
      ⟨some 20, .mv (.t 0), none⟩,
      ⟨some 21, .mv (.t 1), none⟩,
      ⟨some 22, .call 0 (.c (.fn 15 [])) [(.t 21)], none⟩,
      ⟨some 23, .call 0 (.c (.fn 22 [])) [(.t 20), (.t 22)], none⟩,
      ⟨some 19, .mv (.t 23), none⟩,
      ⟨some 24, .ext (.t 19) 0, none⟩,
      ⟨some 25, .ext (.t 19) 1, none⟩,
      ⟨some 5, .alloc 1 [(.int .i64 0), (.int .i64 0), (.int .i64 0), (.int .i64 0), (.int .i64 0), (.int .i64 0), (.int .i64 0), (.int .i64 0), (.int .i64 0), (.int .i64 0), (.int .i64 0), (.int .i64 0), (.int .i64 0), (.int .i64 0), (.int .i64 0), (.int .i64 0), (.int .i64 0), (.int .i64 0), (.int .i64 0), (.int .i64 0), (.int .i64 0), (.int .i64 0), (.int .i64 0), (.int .i64 0), (.int .i64 0), (.int .i64 0), (.int .i64 0), (.int .i64 0), (.int .i64 0), (.int .i64 0), (.int .i64 0), (.int .i64 0), (.int .i64 0), (.int .i64 0), (.int .i64 0), (.int .i64 0), (.int .i64 0), (.int .i64 0), (.int .i64 0), (.int .i64 0), (.int .i64 0), (.int .i64 0), (.int .i64 0), (.int .i64 0), (.int .i64 0), (.int .i64 0), (.int .i64 0), (.int .i64 0), (.int .i64 0), (.int .i64 0), (.int .i64 0), (.int .i64 0), (.int .i64 0), (.int .i64 0), (.int .i64 0), (.int .i64 0), (.int .i64 0), (.int .i64 0), (.int .i64 0), (.int .i64 0), (.int .i64 0), (.int .i64 0), (.int .i64 0), (.int .i64 0), (.int .i64 0), (.int .i64 0), (.int .i64 0), (.int .i64 0), (.int .i64 0), (.int .i64 0), (.int .i64 0), (.int .i64 0), (.int .i64 0), (.int .i64 0), (.int .i64 0), (.int .i64 0), (.int .i64 0)], none⟩,
      ⟨none, .store 77 (.t 5) (.t 24), none⟩,
      ⟨some 6, .mv (.t 25), none⟩]) (
    (.seq (
     .region [] [
       ⟨some 26, .mv (.t 0), none⟩,
       ⟨some 27, .mv (.t 1), none⟩,
       ⟨some 28, .call 0 (.c (.fn 16 [])) [(.t 26), (.t 27)], none⟩,
       ⟨some 7, .mv (.t 28), none⟩]) (
     (.seq (
      (.seq (
       .region [] [
         ⟨some 29, .mv (.t 7), none⟩,
         ⟨some 30, .bin .neq (.t 29) (.c (.int .i64 0)), none⟩]) (
       (.cond (.t 30) (
        (.seq (
         .region [] [
           ⟨some 31, .mv (.t 6), none⟩,
           ⟨some 32, .mv (.t 7), none⟩,
           ⟨some 33, .bin .eql (.t 31) (.t 32), none⟩,
           ⟨some 34, .mv (.t 33), none⟩,
           ⟨some 35, .load true 77 (.t 5), some (34, true)⟩,
           ⟨some 36, .build [(.int .i64 0), (.int .i64 0), (.int .i64 0), (.int .i64 0), (.int .i64 0), (.int .i64 0), (.int .i64 0), (.int .i64 0), (.int .i64 0), (.int .i64 0), (.int .i64 0), (.int .i64 0), (.int .i64 0), (.int .i64 0), (.int .i64 0), (.int .i64 0), (.int .i64 0), (.int .i64 0), (.int .i64 0), (.int .i64 0), (.int .i64 0), (.int .i64 0), (.int .i64 0), (.int .i64 0), (.int .i64 0), (.int .i64 0), (.int .i64 0), (.int .i64 0), (.int .i64 0), (.int .i64 0), (.int .i64 0), (.int .i64 0), (.int .i64 0), (.int .i64 0), (.int .i64 0), (.int .i64 0), (.int .i64 0), (.int .i64 0), (.int .i64 0), (.int .i64 0), (.int .i64 0), (.int .i64 0), (.int .i64 0), (.int .i64 0), (.int .i64 0), (.int .i64 0), (.int .i64 0), (.int .i64 0), (.int .i64 0), (.int .i64 0), (.int .i64 0), (.int .i64 0), (.int .i64 0), (.int .i64 0), (.int .i64 0), (.int .i64 0), (.int .i64 0), (.int .i64 0), (.int .i64 0), (.int .i64 0), (.int .i64 0), (.int .i64 0), (.int .i64 0), (.int .i64 0), (.int .i64 0), (.int .i64 0), (.int .i64 0), (.int .i64 0), (.int .i64 0), (.int .i64 0), (.int .i64 0), (.int .i64 0), (.int .i64 0), (.int .i64 0), (.int .i64 0), (.int .i64 0), (.int .i64 0)] [], some (34, true)⟩,
           ⟨some 37, .eqagg [false, false, false, false, false, false, false, false, false, false, false, false, false, false, false, false, false, false, false, false, false, false, false, false, false, false, false, false, false, false, false, false, false, false, false, false, false, false, false, false, false, false, false, false, false, false, false, false, false, false, false, false, false, false, false, false, false, false, false, false, false, false, false, false, false, false, false, false, false, false, false, false, false, false, false, false, false] false (.t 35) (.t 36), some (34, true)⟩,
           ⟨some 38, .pick (.t 34) (.t 37) (.c (.bool false)), none⟩,
           ⟨some 4, .mv (.t 38), none⟩]) (
         .ret))) (
        .skip))))) (
      (.seq (
       .region [] [
         ⟨some 40, .mv (.t 0), none⟩,
         ⟨some 41, .mv (.t 1), none⟩,
         ⟨some 42, .call 0 (.c (.fn 17 [])) [(.t 40), (.t 41)], none⟩,
         ⟨some 39, .mv (.t 42), none⟩,
         ⟨some 43, .ext (.t 39) 0, none⟩,
         ⟨some 44, .ext (.t 39) 1, none⟩,
         ⟨some 8, .mv (.t 43), none⟩,
         ⟨some 9, .mv (.t 44), none⟩]) (
       (.seq (
        (.seq (
         .region [] [
           ⟨some 10, .mv (.c (.int .i64 0)), none⟩]) (
         (.block 0 (
          (.loop (
           (.seq (
            (.seq (
             .region [] [
               ⟨some 45, .mv (.t 10), none⟩,
               ⟨some 46, .bin .lss (.t 45) (.c (.int .i64 77)), none⟩]) (
             (.cond (.t 46) (
              .skip) (
              .exit 0))))) (
            (.seq (
             (.block 1 (
              (.seq (
               .region [] [
                 ⟨some 49, .mv (.t 10), none⟩,
                 ⟨some 50, .arrAddr 77 1 (.t 5) (.t 49), none⟩,
                 ⟨some 51, .load false 1 (.t 50), none⟩,
                 ⟨some 52, .mv (.t 9), none⟩,
                 ⟨some 53, .mv (.t 10), none⟩,
                 ⟨some 54, .elemAddr 1 (.t 52) (.t 53), none⟩,
                 ⟨some 55, .load false 1 (.t 54), none⟩,
                 ⟨some 56, .bin .neq (.t 51) (.t 55), none⟩]) (
               (.cond (.t 56) (
                (.seq (
                 .region [] [
                   ⟨some 4, .mv (.c (.bool false)), none⟩]) (
                 .ret))) (
                .skip))))))) (
             .region [] [
               ⟨some 47, .mv (.t 10), none⟩,
               ⟨some 48, .bin .add (.t 47) (.c (.int .i64 1)), none⟩,
               ⟨some 10, .mv (.t 48), none⟩]))))))))))) (
        (.seq (
         .region [] [
           ⟨some 57, .mv (.t 6), none⟩,
           ⟨some 58, .bin .eql (.t 57) (.c (.int .i64 0)), none⟩,
           ⟨some 4, .mv (.t 58), none⟩]) (
         .ret))))))))))))))))⟩

def a9 : AFunc := ⟨[.tmp 4],
 (.seq (
  .region [] [
    ⟨some 4, .mv (.c (.bool false)), none⟩]) (
  (.seq (
   (.seq (
    .region [] [
      ⟨some 12, .callf 0 (.c (.fn 13 [])) [], none⟩,
      ⟨some 13, .not (.t 12), none⟩,
      ⟨some 14, .mv (.t 13), none⟩,
      ⟨some 15, .mv (.t 1), some (14, false)⟩,
      ⟨some 16, .len (.t 15), some (14, false)⟩,
      ⟨some 17, .bin .gtr (.t 16) (.c (.int .i64 30)), some (14, false)⟩,
      ⟨some 18, .pick (.t 14) (.c (.bool true)) (.t 17), none⟩]) (
    (.cond (.t 18) (
     (.seq (
      .region [] [
        ⟨some 19, .callf 0 (.c (.fn 13 [])) [], none⟩,
        ⟨some 4, .mv (.t 19), none⟩]) (
      .ret))) (
     .skip))))) (
   (.seq (
    .region [] [
      ⟨some 5, .mv (.c .nilsl), none⟩]) (
    (.seq (
     (.seq (
      .region [] [
        ⟨some 6, .mv (.c (.int .i64 0)), none⟩]) (
      (.block 0 (
       (.loop (
        (.seq (
         (.seq (
          .region [] [
            ⟨some 20, .mv (.t 6), none⟩,
            ⟨some 21, .mv (.t 1), none⟩,
            ⟨some 22, .len (.t 21), none⟩,
            ⟨some 23, .bin .lss (.t 20) (.t 22), none⟩]) (
          (.cond (.t 23) (
           .skip) (
           .exit 0))))) (
         (.seq (
          (.block 1 (
           .region [] [
             ⟨some 26, .mv (.t 5), none⟩,
             ⟨some 27, .mv (.t 1), none⟩,
             ⟨some 28, .mv (.t 6), none⟩,
             ⟨some 29, .elemAddr 7 (.t 27) (.t 28), none⟩,
             ⟨some 30, .fieldAddr 0 (.t 29), none⟩,
             ⟨some 31, .load false 1 (.t 30), none⟩,
             ⟨some 32, .mv (.t 1), none⟩,
             ⟨some 33, .mv (.t 6), none⟩,
             ⟨some 34, .elemAddr 7 (.t 32) (.t 33), none⟩,
             ⟨some 35, .fieldAddr 1 (.t 34), none⟩,
             ⟨some 36, .load false 1 (.t 35), none⟩,
             ⟨some 37, .mv (.t 1), none⟩,
             ⟨some 38, .mv (.t 6), none⟩,
             ⟨some 39, .elemAddr 7 (.t 37) (.t 38), none⟩,
             ⟨some 40, .fieldAddr 2 (.t 39), none⟩,
             ⟨some 41, .load false 1 (.t 40), none⟩,
             ⟨some 42, .mv (.t 1), none⟩,
             ⟨some 43, .mv (.t 6), none⟩,
             ⟨some 44, .elemAddr 7 (.t 42) (.t 43), none⟩,
             ⟨some 45, .fieldAddr 3 (.t 44), none⟩,
             ⟨some 46, .fieldAddr 0 (.t 45), none⟩,
             ⟨some 47, .load false 1 (.t 46), none⟩,
             ⟨some 48, .mv (.t 1), none⟩,
             ⟨some 49, .mv (.t 6), none⟩,
             ⟨some 50, .elemAddr 7 (.t 48) (.t 49), none⟩,
             ⟨some 51, .fieldAddr 3 (.t 50), none⟩,
             ⟨some 52, .fieldAddr 1 (.t 51), none⟩,
             ⟨some 53, .load false 1 (.t 52), none⟩,
             ⟨some 54, .build [(.int .i64 0), (.bool false)] [(0, 1, (.t 47)), (1, 1, (.t 53))], none⟩,
             ⟨some 55, .mv (.t 1), none⟩,
             ⟨some 56, .mv (.t 6), none⟩,
             ⟨some 57, .elemAddr 7 (.t 55) (.t 56), none⟩,
             ⟨some 58, .fieldAddr 5 (.t 57), none⟩,
             ⟨some 59, .load false 1 (.t 58), none⟩,
             ⟨some 60, .mv (.t 1), none⟩,
             ⟨some 61, .mv (.t 6), none⟩,
             ⟨some 62, .elemAddr 7 (.t 60) (.t 61), none⟩,
             ⟨some 63, .fieldAddr 6 (.t 62), none⟩,
             ⟨some 64, .load false 1 (.t 63), none⟩,
             ⟨some 65, .build [(.int .i64 0), (.int .i64 0), (.int .i64 0), (.int .i64 0), (.bool false), (.bool false), (.int .i64 0)] [(0, 1, (.t 31)), (1, 1, (.t 36)), (2, 1, (.t 41)), (3, 2, (.t 54)), (5, 1, (.t 59)), (6, 1, (.t 64))], none⟩,
             ⟨some 66, .lit 7 [(.int .i64 0), (.int .i64 0), (.int .i64 0), (.int .i64 0), (.bool false), (.bool false), (.int .i64 0)] 1 [(0, 7, (.t 65))], none⟩,
             ⟨some 67, .app 1 7 56 (.t 26) (.t 66), none⟩,
             ⟨some 5, .mv (.t 67), none⟩]))) (
          .region [] [
            ⟨some 24, .mv (.t 6), none⟩,
            ⟨some 25, .bin .add (.t 24) (.c (.int .i64 1)), none⟩,
            ⟨some 6, .mv (.t 25), none⟩]))))))))))) (
     (.seq (
      .region [] [
        ⟨some 69, .mv (.t 0), none⟩,
        ⟨some 70, .mv (.t 5), none⟩,
        ⟨some 71, .callf 0 (.c (.fn 23 [])) [(.t 69), (.t 70)], none⟩,
        ⟨some 68, .mv (.t 71), none⟩,
        ⟨some 72, .ext (.t 68) 0, none⟩,
        ⟨some 73, .ext (.t 68) 1, none⟩,
        ⟨some 7, .mv (.t 72), none⟩,
        ⟨some 8, .mv (.t 73), none⟩]) (
      (.seq (
       .region [] [
         ⟨some 75, .mv (.t 0), none⟩,
         ⟨some 76, .mv (.t 1), none⟩,
         ⟨some 77, .callf 0 (.c (.fn 24 [])) [(.t 75), (.t 76)], none⟩,
         ⟨some 74, .mv (.t 77), none⟩,
         ⟨some 78, .ext (.t 74) 0, none⟩,
         ⟨some 79, .ext (.t 74) 1, none⟩,
         ⟨some 9, .mv (.t 78), none⟩,
         ⟨some 10, .mv (.t 79), none⟩]) (
       (.seq (
        (.seq (
         .region [] [
           ⟨some 80, .mv (.t 8), none⟩,
           ⟨some 81, .mv (.t 10), none⟩,
           ⟨some 82, .bin .neq (.t 80) (.t 81), none⟩,
           ⟨some 83, .mv (.t 82), none⟩,
           ⟨some 84, .mv (.t 7), some (83, false)⟩,
           ⟨some 85, .len (.t 84), some (83, false)⟩,
           ⟨some 86, .mv (.t 9), some (83, false)⟩,
           ⟨some 87, .len (.t 86), some (83, false)⟩,
           ⟨some 88, .bin .neq (.t 85) (.t 87), some (83, false)⟩,
           ⟨some 89, .pick (.t 83) (.c (.bool true)) (.t 88), none⟩]) (
         (.cond (.t 89) (
          (.seq (
           .region [] [
             ⟨some 4, .mv (.c (.bool false)), none⟩]) (
           .ret))) (
          .skip))))) (
        (.seq (
         (.seq (
          .region [] [
            ⟨some 11, .mv (.c (.int .i64 0)), none⟩]) (
          (.block 2 (
           (.loop (
            (.seq (
             (.seq (
              .region [] [
                ⟨some 90, .mv (.t 11), none⟩,
                ⟨some 91, .mv (.t 7), none⟩,
                ⟨some 92, .len (.t 91), none⟩,
                ⟨some 93, .bin .lss (.t 90) (.t 92), none⟩]) (
              (.cond (.t 93) (
               .skip) (
               .exit 2))))) (
             (.seq (
              (.block 3 (
               (.seq (
                .region [] [
                  ⟨some 96, .mv (.t 7), none⟩,
                  ⟨some 97, .mv (.t 11), none⟩,
                  ⟨some 98, .elemAddr 1 (.t 96) (.t 97), none⟩,
                  ⟨some 99, .load false 1 (.t 98), none⟩,
                  ⟨some 100, .mv (.t 9), none⟩,
                  ⟨some 101, .mv (.t 11), none⟩,
                  ⟨some 102, .elemAddr 1 (.t 100) (.t 101), none⟩,
                  ⟨some 103, .load false 1 (.t 102), none⟩,
                  ⟨some 104, .bin .neq (.t 99) (.t 103), none⟩]) (
                (.cond (.t 104) (
                 (.seq (
                  .region [] [
                    ⟨some 4, .mv (.c (.bool false)), none⟩]) (
                  .ret))) (
                 .skip))))))) (
              .region [] [
                ⟨some 94, .mv (.t 11), none⟩,
                ⟨some 95, .bin .add (.t 94) (.c (.int .i64 1)), none⟩,
                ⟨some 11, .mv (.t 95), none⟩]))))))))))) (
         (.seq (
          .region [] [
            ⟨some 4, .mv (.c (.bool true)), none⟩]) (
          .ret))))))))))))))))))⟩

def a10 : AFunc := ⟨[.tmp 4],
 (.seq (
  .region [] [
    ⟨some 4, .mv (.c (.bool false)), none⟩]) (
  (.seq (
   (.seq (
    .region [] [
      ⟨some 10, .call 0 (.c (.fn 13 [])) [], none⟩,
      ⟨some 11, .not (.t 10), none⟩,
      ⟨some 12, .mv (.t 11), none⟩,
      ⟨some 13, .mv (.t 1), some (12, false)⟩,
      ⟨some 14, .len (.t 13), some (12, false)⟩,
      ⟨some 15, .bin .gtr (.t 14) (.c (.int .i64 30)), some (12, false)⟩,
      ⟨some 16, .pick (.t 12) (.c (.bool true)) (.t 15), none⟩,
      ⟨some 17, .mv (.t 16), none⟩,
      ⟨some 18, .mv (.t 0), some (17, false)⟩,
      ⟨some 19, .mv (.t 1), some (17, false)⟩,
      ⟨some 20, .call 0 (.c (.fn 16 [])) [(.t 18), (.t 19)], some (17, false)⟩,
      ⟨some 21, .bin .neq (.t 20) (.c (.int .i64 0)), some (17, false)⟩,
      ⟨some 22, .pick (.t 17) (.c (.bool true)) (.t 21), none⟩]) (
    (.cond (.t 22) (
     (.seq (
      .region [] [
        ⟨some 23, .call 0 (.c (.fn 13 [])) [], none⟩,
        ⟨some 4, .mv (.t 23), none⟩]) (
      .ret))) (
     .skip))))) (
   (.seq (
    .region [] [
      ⟨some 25, .mv (.t 0), none⟩,
      ⟨some 26, .mv (.t 1), none⟩,
      ⟨some 27, .call 0 (.c (.fn 15 [])) [(.t 26)], none⟩,
      ⟨some 28, .call 0 (.c (.fn 14 [])) [(.t 25), (.t 27)], none⟩,
      ⟨some 24, .mv (.t 28), none⟩,
      ⟨some 29, .ext (.t 24) 0, none⟩,
      ⟨some 30, .ext (.t 24) 1, none⟩,
      ⟨some 5, .mv (.t 29), none⟩,
      ⟨some 6, .mv (.t 30), none⟩]) (
    (.seq (
     .region [] [
       ⟨some 32, .mv (.t 0), none⟩,
       ⟨some 33, .mv (.t 1), none⟩,
       ⟨some 34, .mv (.t 5), none⟩,
       ⟨some 35, .call 0 (.c (.fn 25 [])) [(.t 33), (.t 34)], none⟩,
       ⟨some 36, .call 0 (.c (.fn 23 [])) [(.t 32), (.t 35)], none⟩,
       ⟨some 31, .mv (.t 36), none⟩,
       ⟨some 37, .ext (.t 31) 0, none⟩,
       ⟨some 38, .ext (.t 31) 1, none⟩,
       ⟨some 7, .mv (.t 37), none⟩,
       ⟨some 8, .mv (.t 38), none⟩]) (
     (.seq (
      (.seq (
       .region [] [
         ⟨some 39, .mv (.t 6), none⟩,
         ⟨some 40, .bin .neq (.t 39) (.c (.int .i64 0)), none⟩,
         ⟨some 41, .mv (.t 40), none⟩,
         ⟨some 42, .mv (.t 8), some (41, false)⟩,
         ⟨some 43, .bin .neq (.t 42) (.c (.int .i64 0)), some (41, false)⟩,
         ⟨some 44, .pick (.t 41) (.c (.bool true)) (.t 43), none⟩,
         ⟨some 45, .mv (.t 44), none⟩,
         ⟨some 46, .mv (.t 7), some (45, false)⟩,
         ⟨some 47, .len (.t 46), some (45, false)⟩,
         ⟨some 48, .mv (.t 1), some (45, false)⟩,
         ⟨some 49, .len (.t 48), some (45, false)⟩,
         ⟨some 50, .bin .neq (.t 47) (.t 49), some (45, false)⟩,
         ⟨some 51, .pick (.t 45) (.c (.bool true)) (.t 50), none⟩]) (
       (.cond (.t 51) (
        (.seq (
         .region [] [
           ⟨some 4, .mv (.c (.bool false)), none⟩]) (
         .ret))) (
        .skip))))) (
      (.seq (
       (.seq (
        .region [] [
          ⟨some 9, .mv (.c (.int .i64 0)), none⟩]) (
        (.block 0 (
         (.loop (
          (.seq (
           (.seq (
            .region [] [
              ⟨some 52, .mv (.t 9), none⟩,
              ⟨some 53, .mv (.t 7), none⟩,
              ⟨some 54, .len (.t 53), none⟩,
              ⟨some 55, .bin .lss (.t 52) (.t 54), none⟩]) (
            (.cond (.t 55) (
             .skip) (
             .exit 0))))) (
           (.seq (
            (.block 1 (
             (.seq (
              .region [] [
                ⟨some 58, .mv (.t 7), none⟩,
                ⟨some 59, .mv (.t 9), none⟩,
                ⟨some 60, .elemAddr 1 (.t 58) (.t 59), none⟩,
                ⟨some 61, .load false 1 (.t 60), none⟩,
                ⟨some 62, .mv (.t 1), none⟩,
                ⟨some 63, .mv (.t 9), none⟩,
                ⟨some 64, .elemAddr 6 (.t 62) (.t 63), none⟩,
                ⟨some 65, .fieldAddr 1 (.t 64), none⟩,
                ⟨some 66, .fieldAddr 1 (.t 65), none⟩,
                ⟨some 67, .load false 1 (.t 66), none⟩,
                ⟨some 68, .bin .neq (.t 61) (.t 67), none⟩]) (
              (.cond (.t 68) (
               (.seq (
                .region [] [
                  ⟨some 4, .mv (.c (.bool false)), none⟩]) (
                .ret))) (
               .skip))))))) (
            .region [] [
              ⟨some 56, .mv (.t 9), none⟩,
              ⟨some 57, .bin .add (.t 56) (.c (.int .i64 1)), none⟩,
              ⟨some 9, .mv (.t 57), none⟩]))))))))))) (
       (.seq (
        .region [] [
          ⟨some 4, .mv (.c (.bool true)), none⟩]) (
        .ret))))))))))))))⟩

def a11 : AFunc := ⟨[.tmp 6],
 (.seq (
  .region [] [
    ⟨some 6, .mv (.c (.bool false)), none⟩]) (
  (.seq (
   (.seq (
    .region [] [
      ⟨some 12, .callf 1 (.c (.fn 13 [])) [], none⟩,
      ⟨some 13, .not (.t 12), none⟩,
      ⟨some 14, .mv (.t 13), none⟩,
      ⟨some 15, .mv (.t 1), some (14, false)⟩,
      ⟨some 16, .len (.t 15), some (14, false)⟩,
      ⟨some 17, .bin .gtr (.t 16) (.c (.int .i64 30)), some (14, false)⟩,
      ⟨some 18, .pick (.t 14) (.c (.bool true)) (.t 17), none⟩,
      ⟨some 19, .mv (.t 18), none⟩,
      ⟨some 20, .mv (.t 1), some (19, false)⟩,
      ⟨some 21, .len (.t 20), some (19, false)⟩,
      ⟨some 22, .bin .eql (.t 21) (.c (.int .i64 0)), some (19, false)⟩,
      ⟨some 23, .pick (.t 19) (.c (.bool true)) (.t 22), none⟩,
      ⟨some 24, .mv (.t 23), none⟩,
      ⟨some 25, .mv (.t 0), some (24, false)⟩,
      ⟨some 26, .mv (.t 1), some (24, false)⟩,
      ⟨some 27, .callf 2 (.c (.fn 16 [])) [(.t 25), (.t 26)], some (24, false)⟩,
      ⟨some 28, .bin .neq (.t 27) (.c (.int .i64 0)), some (24, false)⟩,
      ⟨some 29, .pick (.t 24) (.c (.bool true)) (.t 28), none⟩]) (
    (.cond (.t 29) (
     (.seq (
      .region [] [
        ⟨some 30, .callf 3 (.c (.fn 13 [])) [], none⟩,
        ⟨some 6, .mv (.t 30), none⟩]) (
      .ret))) (
     .skip))))) (
   (.seq (
    .region [] [
      ⟨some 31, .mv (.t 2), none⟩,
      ⟨some 32, .conv .i64 (.t 31), none⟩,
      ⟨some 33, .mv (.t 1), none⟩,
      ⟨some 34, .len (.t 33), none⟩,
      ⟨some 35, .bin .rem (.t 32) (.t 34), none⟩,
      ⟨some 7, .mv (.t 35), none⟩]) (
    (.seq (
     .region [] [
       ⟨some 37, .mv (.t 0), none⟩,
       ⟨some 38, .mv (.t 1), none⟩,
       ⟨some 39, .callf 4 (.c (.fn 15 [])) [(.t 38)], none⟩,
       ⟨some 40, .callf 5 (.c (.fn 14 [])) [(.t 37), (.t 39)], none⟩,
       ⟨some 36, .mv (.t 40), none⟩,
       ⟨some 41, .ext (.t 36) 0, none⟩,
       ⟨some 42, .ext (.t 36) 1, none⟩,
       ⟨some 8, .mv (.t 41), none⟩,
       ⟨some 9, .mv (.t 42), none⟩]) (
     (.seq (
      (.seq (
       .region [] [
         ⟨some 43, .mv (.t 9), none⟩,
         ⟨some 44, .bin .neq (.t 43) (.c (.int .i64 0)), none⟩,
         ⟨some 45, .mv (.t 44), none⟩,
         ⟨some 46, .mv (.t 8), some (45, false)⟩,
         ⟨some 47, .len (.t 46), some (45, false)⟩,
         ⟨some 48, .mv (.t 1), some (45, false)⟩,
         ⟨some 49, .len (.t 48), some (45, false)⟩,
         ⟨some 50, .bin .neq (.t 47) (.t 49), some (45, false)⟩,
         ⟨some 51, .pick (.t 45) (.c (.bool true)) (.t 50), none⟩]) (
       (.cond (.t 51) (
        (.seq (
         .region [] [
           ⟨some 6, .mv (.c (.bool false)), none⟩]) (
         .ret))) (
        .skip))))) (
      (.seq (
       (.seq (
        .region [] [
          ⟨some 52, .mv (.t 8), none⟩,
          ⟨some 53, .mv (.t 7), none⟩,
          ⟨some 54, .elemAddr 2 (.t 52) (.t 53), none⟩,
          ⟨some 55, .fieldAddr 0 (.t 54), none⟩,
          ⟨some 56, .load false 1 (.t 55), none⟩,
          ⟨some 57, .bin .eql (.t 56) (.c (.int .i64 0)), none⟩,
          ⟨some 58, .mv (.t 57), none⟩,
          ⟨some 59, .mv (.t 1), some (58, false)⟩,
          ⟨some 60, .mv (.t 7), some (58, false)⟩,
          ⟨some 61, .elemAddr 6 (.t 59) (.t 60), some (58, false)⟩,
          ⟨some 62, .fieldAddr 4 (.t 61), some (58, false)⟩,
          ⟨some 63, .load false 1 (.t 62), some (58, false)⟩,
          ⟨some 64, .pick (.t 58) (.c (.bool true)) (.t 63), none⟩,
          ⟨some 65, .mv (.t 64), none⟩,
          ⟨some 66, .mv (.t 1), some (65, false)⟩,
          ⟨some 67, .mv (.t 7), some (65, false)⟩,
          ⟨some 68, .elemAddr 6 (.t 66) (.t 67), some (65, false)⟩,
          ⟨some 69, .fieldAddr 5 (.t 68), some (65, false)⟩,
          ⟨some 70, .load false 1 (.t 69), some (65, false)⟩,
          ⟨some 71, .bin .neq (.t 70) (.c (.int .i64 0)), some (65, false)⟩,
          ⟨some 72, .pick (.t 65) (.c (.bool true)) (.t 71), none⟩,
          ⟨some 73, .mv (.t 72), none⟩,
          ⟨some 74, .mv (.t 1), some (73, false)⟩,
          ⟨some 75, .mv (.t 7), some (73, false)⟩,
          ⟨some 76, .callf 6 (.c (.fn 26 [])) [(.t 74), (.t 75)], some (73, false)⟩,
          ⟨some 77, .pick (.t 73) (.c (.bool true)) (.t 76), none⟩]) (
        (.cond (.t 77) (
         (.seq (
          .region [] [
            ⟨some 6, .mv (.c (.bool true)), none⟩]) (
          .ret))) (
         .skip))))) (
       (.seq (
        .region [] [
          ⟨some 78, .mv (.t 8), none⟩,
          ⟨some 79, .mv (.t 7), none⟩,
          ⟨some 80, .build [(.int .i64 0), (.bool false)] [], none⟩,
          ⟨some 81, .elemAddr 2 (.t 78) (.t 79), none⟩,
          ⟨none, .store 2 (.t 81) (.t 80), none⟩]) (
        (.seq (
         .region [] [
           ⟨some 83, .mv (.t 0), none⟩,
           ⟨some 84, .mv (.t 1), none⟩,
           ⟨some 85, .mv (.t 8), none⟩,
           ⟨some 86, .callf 7 (.c (.fn 25 [])) [(.t 84), (.t 85)], none⟩,
           ⟨some 87, .callf 8 (.c (.fn 23 [])) [(.t 83), (.t 86)], none⟩,
           ⟨some 82, .mv (.t 87), none⟩,
           ⟨some 88, .ext (.t 82) 0, none⟩,
           ⟨some 89, .ext (.t 82) 1, none⟩,
           ⟨some 10, .mv (.t 88), none⟩,
           ⟨some 11, .mv (.t 89), none⟩]) (
         (.seq (
          .region [] [
            ⟨some 90, .mv (.t 11), none⟩,
            ⟨some 91, .bin .eql (.t 90) (.c (.int .i64 0)), none⟩,
            ⟨some 92, .mv (.t 91), none⟩,
            ⟨some 93, .mv (.t 10), some (92, true)⟩,
            ⟨some 94, .len (.t 93), some (92, true)⟩,
            ⟨some 95, .mv (.t 1), some (92, true)⟩,
            ⟨some 96, .len (.t 95), some (92, true)⟩,
            ⟨some 97, .bin .eql (.t 94) (.t 96), some (92, true)⟩,
            ⟨some 98, .pick (.t 92) (.t 97) (.c (.bool false)), none⟩,
            ⟨some 99, .mv (.t 98), none⟩,
            ⟨some 100, .mv (.t 10), some (99, true)⟩,
            ⟨some 101, .mv (.t 7), some (99, true)⟩,
            ⟨some 102, .elemAddr 1 (.t 100) (.t 101), some (99, true)⟩,
            ⟨some 103, .load false 1 (.t 102), some (99, true)⟩,
            ⟨some 104, .mv (.t 1), some (99, true)⟩,
            ⟨some 105, .mv (.t 7), some (99, true)⟩,
            ⟨some 106, .elemAddr 6 (.t 104) (.t 105), some (99, true)⟩,
            ⟨some 107, .fieldAddr 1 (.t 106), some (99, true)⟩,
            ⟨some 108, .fieldAddr 1 (.t 107), some (99, true)⟩,
            ⟨some 109, .load false 1 (.t 108), some (99, true)⟩,
            ⟨some 110, .bin .neq (.t 103) (.t 109), some (99, true)⟩,
            ⟨some 111, .pick (.t 99) (.t 110) (.c (.bool false)), none⟩,
            ⟨some 6, .mv (.t 111), none⟩]) (
          .ret))))))))))))))))))⟩

def a12 : AFunc := ⟨[.tmp 4],
 (.seq (
  .region [] [
    ⟨some 4, .mv (.c (.bool false)), none⟩]) (
  (.seq (
   .region [] [
     ⟨some 5, .mv (.c (.int .i64 2560)), none⟩]) (
   (.seq (
    (.seq (
     .region [] [
       ⟨some 13, .mv (.t 0), none⟩]) (
     (.cond (.t 13) (
      .region [] [
        ⟨some 14, .mv (.t 5), none⟩,
        ⟨some 15, .bin .add (.t 14) (.c (.int .i64 1)), none⟩,
        ⟨some 5, .mv (.t 15), none⟩]) (
      .skip))))) (
    (.seq (
     .region [] [
       ⟨some 16, .mv (.t 5), none⟩,
       ⟨some 17, .mks 1 6 [(.int .i64 0), (.int .i64 0), (.int .i64 0), (.int .i64 0), (.bool false), (.int .i64 0)] 48 (.t 16) (.t 16), none⟩,
       ⟨some 6, .mv (.t 17), none⟩]) (
     (.seq (
      .region [] [
        ⟨some 18, .mv (.t 5), none⟩,
        ⟨some 19, .mks 2 7 [(.int .i64 0), (.int .i64 0), (.int .i64 0), (.int .i64 0), (.bool false), (.bool false), (.int .i64 0)] 56 (.t 18) (.t 18), none⟩,
        ⟨some 7, .mv (.t 19), none⟩]) (
      (.seq (
       (.seq (
        .region [] [
          ⟨some 8, .mv (.c (.int .i64 0)), none⟩]) (
        (.block 0 (
         (.loop (
          (.seq (
           (.seq (
            .region [] [
              ⟨some 20, .mv (.t 8), none⟩,
              ⟨some 21, .mv (.t 5), none⟩,
              ⟨some 22, .bin .lss (.t 20) (.t 21), none⟩]) (
            (.cond (.t 22) (
             .skip) (
             .exit 0))))) (
           (.seq (
            (.block 1 (
             .region [] [
               ⟨some 25, .mv (.t 6), none⟩,
               ⟨some 26, .mv (.t 8), none⟩,
               ⟨some 27, .mv (.t 7), none⟩,
               ⟨some 28, .mv (.t 8), none⟩,
               ⟨some 29, .mv (.t 1), none⟩,
               ⟨some 30, .conv .i64 (.t 29), none⟩,
               ⟨some 31, .mv (.t 1), none⟩,
               ⟨some 32, .conv .i64 (.t 31), none⟩,
               ⟨some 33, .elemAddr 6 (.t 25) (.t 26), none⟩,
               ⟨some 34, .fieldAddr 0 (.t 33), none⟩,
               ⟨none, .store 1 (.t 34) (.t 30), none⟩,
               ⟨some 35, .elemAddr 7 (.t 27) (.t 28), none⟩,
               ⟨some 36, .fieldAddr 0 (.t 35), none⟩,
               ⟨none, .store 1 (.t 36) (.t 32), none⟩]))) (
            .region [] [
              ⟨some 23, .mv (.t 8), none⟩,
              ⟨some 24, .bin .add (.t 23) (.c (.int .i64 1)), none⟩,
              ⟨some 8, .mv (.t 24), none⟩]))))))))))) (
       (.seq (
        .region [] [
          ⟨some 38, .mv (.t 6), none⟩,
          ⟨some 39, .mv (.t 5), none⟩,
          ⟨some 40, .mv (.t 5), none⟩,
          ⟨some 41, .sub 6 (.t 38) none (some (.t 39)) (some (.t 40)), none⟩,
          ⟨some 42, .callf 0 (.c (.fn 14 [])) [(.c (.int .i64 0)), (.t 41)], none⟩,
          ⟨some 37, .mv (.t 42), none⟩,
          ⟨some 43, .ext (.t 37) 0, none⟩,
          ⟨some 44, .ext (.t 37) 1, none⟩,
          ⟨some 9, .mv (.t 43), none⟩,
          ⟨some 10, .mv (.t 44), none⟩]) (
        (.seq (
         .region [] [
           ⟨some 46, .mv (.t 7), none⟩,
           ⟨some 47, .callf 0 (.c (.fn 23 [])) [(.c (.int .i64 0)), (.t 46)], none⟩,
           ⟨some 45, .mv (.t 47), none⟩,
           ⟨some 48, .ext (.t 45) 0, none⟩,
           ⟨some 49, .ext (.t 45) 1, none⟩,
           ⟨some 11, .mv (.t 48), none⟩,
           ⟨some 12, .mv (.t 49), none⟩]) (
         (.seq (
          (.seq (
           .region [] [
             ⟨some 50, .mv (.t 0), none⟩]) (
           (.cond (.t 50) (
            (.seq (
             .region [] [
               ⟨some 51, .callf 0 (.c (.fn 13 [])) [], none⟩,
               ⟨some 52, .mv (.t 51), none⟩,
               ⟨some 53, .mv (.t 9), some (52, true)⟩,
               ⟨some 54, .len (.t 53), some (52, true)⟩,
               ⟨some 55, .bin .eql (.t 54) (.c (.int .i64 0)), some (52, true)⟩,
               ⟨some 56, .pick (.t 52) (.t 55) (.c (.bool false)), none⟩,
               ⟨some 57, .mv (.t 56), none⟩,
               ⟨some 58, .mv (.t 10), some (57, true)⟩,
               ⟨some 59, .bin .eql (.t 58) (.c (.int .i64 9)), some (57, true)⟩,
               ⟨some 60, .pick (.t 57) (.t 59) (.c (.bool false)), none⟩,
               ⟨some 61, .mv (.t 60), none⟩,
               ⟨some 62, .mv (.t 11), some (61, true)⟩,
               ⟨some 63, .len (.t 62), some (61, true)⟩,
               ⟨some 64, .bin .eql (.t 63) (.c (.int .i64 0)), some (61, true)⟩,
               ⟨some 65, .pick (.t 61) (.t 64) (.c (.bool false)), none⟩,
               ⟨some 66, .mv (.t 65), none⟩,
               ⟨some 67, .mv (.t 12), some (66, true)⟩,
               ⟨some 68, .bin .eql (.t 67) (.c (.int .i64 9)), some (66, true)⟩,
               ⟨some 69, .pick (.t 66) (.t 68) (.c (.bool false)), none⟩,
               ⟨some 4, .mv (.t 69), none⟩]) (
             .ret))) (
            .skip))))) (
          (.seq (
           .region [] [
             ⟨some 70, .callf 0 (.c (.fn 13 [])) [], none⟩,
             ⟨some 71, .mv (.t 70), none⟩,
             ⟨some 72, .mv (.t 9), some (71, true)⟩,
             ⟨some 73, .len (.t 72), some (71, true)⟩,
             ⟨some 74, .mv (.t 5), some (71, true)⟩,
             ⟨some 75, .bin .eql (.t 73) (.t 74), some (71, true)⟩,
             ⟨some 76, .pick (.t 71) (.t 75) (.c (.bool false)), none⟩,
             ⟨some 77, .mv (.t 76), none⟩,
             ⟨some 78, .mv (.t 10), some (77, true)⟩,
             ⟨some 79, .bin .eql (.t 78) (.c (.int .i64 0)), some (77, true)⟩,
             ⟨some 80, .pick (.t 77) (.t 79) (.c (.bool false)), none⟩,
             ⟨some 81, .mv (.t 80), none⟩,
             ⟨some 82, .mv (.t 11), some (81, true)⟩,
             ⟨some 83, .len (.t 82), some (81, true)⟩,
             ⟨some 84, .mv (.t 5), some (81, true)⟩,
             ⟨some 85, .bin .eql (.t 83) (.t 84), some (81, true)⟩,
             ⟨some 86, .pick (.t 81) (.t 85) (.c (.bool false)), none⟩,
             ⟨some 87, .mv (.t 86), none⟩,
             ⟨some 88, .mv (.t 12), some (87, true)⟩,
             ⟨some 89, .bin .eql (.t 88) (.c (.int .i64 0)), some (87, true)⟩,
             ⟨some 90, .pick (.t 87) (.t 89) (.c (.bool false)), none⟩,
             ⟨some 4, .mv (.t 90), none⟩]) (
           .ret))))))))))))))))))))⟩

def a13 : AFunc := ⟨[.tmp 0],
 (.seq (
  .region [] [
    ⟨some 0, .mv (.c (.bool false)), none⟩]) (
  (.seq (
   .region [] [
     ⟨some 5, .build [(.int .i64 0), (.int .i64 0), (.int .i64 0)] [(0, 1, (.c (.int .i64 6))), (1, 1, (.c (.int .i64 (-1)))), (2, 1, (.c (.int .i64 4)))], none⟩,
     ⟨some 1, .alloc 1 [(.int .i64 0), (.int .i64 0), (.int .i64 0)], none⟩,
     ⟨none, .store 3 (.t 1) (.t 5), none⟩]) (
   (.seq (
    .region [] [
      ⟨some 6, .build [(.int .i64 0), (.int .i64 0), (.int .i64 0)] [(0, 1, (.c (.int .i64 6))), (2, 1, (.c (.int .i64 4)))], none⟩,
      ⟨some 2, .alloc 2 [(.int .i64 0), (.int .i64 0), (.int .i64 0)], none⟩,
      ⟨none, .store 3 (.t 2) (.t 6), none⟩]) (
    (.seq (
     .region [] [
       ⟨some 8, .load true 3 (.t 1), none⟩,
       ⟨some 9, .build [(.int .i64 0), (.int .i64 0), (.int .i64 0), (.int .i64 0), (.bool false), (.int .i64 0)] [(1, 3, (.t 8))], none⟩,
       ⟨some 10, .load true 3 (.t 2), none⟩,
       ⟨some 11, .build [(.int .i64 0), (.int .i64 0), (.int .i64 0), (.int .i64 0), (.bool false), (.int .i64 0)] [(0, 1, (.c (.int .i64 1))), (1, 3, (.t 10))], none⟩,
       ⟨some 12, .load true 3 (.t 2), none⟩,
       ⟨some 13, .build [(.int .i64 0), (.int .i64 0), (.int .i64 0), (.int .i64 0), (.bool false), (.int .i64 0)] [(0, 1, (.c (.int .i64 2))), (1, 3, (.t 12))], none⟩,
       ⟨some 14, .load true 3 (.t 1), none⟩,
       ⟨some 15, .build [(.int .i64 0), (.int .i64 0), (.int .i64 0), (.int .i64 0), (.bool false), (.int .i64 0)] [(0, 1, (.c (.int .i64 3))), (1, 3, (.t 14))], none⟩,
       ⟨some 16, .lit 6 [(.int .i64 0), (.int .i64 0), (.int .i64 0), (.int .i64 0), (.bool false), (.int .i64 0)] 4 [(0, 6, (.t 9)), (6, 6, (.t 11)), (12, 6, (.t 13)), (18, 6, (.t 15))], none⟩,
       ⟨some 17, .call 0 (.c (.fn 14 [])) [(.c (.int .i64 (-1))), (.t 16)], none⟩,
       ⟨some 7, .mv (.t 17), none⟩,
       ⟨some 18, .ext (.t 7) 0, none⟩,
       ⟨some 19, .ext (.t 7) 1, none⟩,
       ⟨some 3, .mv (.t 18), none⟩,
       ⟨some 4, .mv (.t 19), none⟩]) (
     (.seq (
      .region [] [
        ⟨some 20, .mv (.t 4), none⟩,
        ⟨some 21, .bin .eql (.t 20) (.c (.int .i64 0)), none⟩,
        ⟨some 22, .mv (.t 21), none⟩,
        ⟨some 23, .mv (.t 3), some (22, true)⟩,
        ⟨some 24, .len (.t 23), some (22, true)⟩,
        ⟨some 25, .bin .eql (.t 24) (.c (.int .i64 4)), some (22, true)⟩,
        ⟨some 26, .pick (.t 22) (.t 25) (.c (.bool false)), none⟩,
        ⟨some 27, .mv (.t 26), none⟩,
        ⟨some 28, .mv (.t 3), some (27, true)⟩,
        ⟨some 29, .elemAddr 2 (.t 28) (.c (.int .i64 0)), some (27, true)⟩,
        ⟨some 30, .fieldAddr 0 (.t 29), some (27, true)⟩,
        ⟨some 31, .load false 1 (.t 30), some (27, true)⟩,
        ⟨some 32, .bin .eql (.t 31) (.c (.int .i64 0)), some (27, true)⟩,
        ⟨some 33, .pick (.t 27) (.t 32) (.c (.bool false)), none⟩,
        ⟨some 34, .mv (.t 33), none⟩,
        ⟨some 35, .mv (.t 3), some (34, true)⟩,
        ⟨some 36, .elemAddr 2 (.t 35) (.c (.int .i64 1)), some (34, true)⟩,
        ⟨some 37, .fieldAddr 0 (.t 36), some (34, true)⟩,
        ⟨some 38, .load false 1 (.t 37), some (34, true)⟩,
        ⟨some 39, .bin .eql (.t 38) (.c (.int .i64 3)), some (34, true)⟩,
        ⟨some 40, .pick (.t 34) (.t 39) (.c (.bool false)), none⟩,
        ⟨some 41, .mv (.t 40), none⟩,
        ⟨some 42, .mv (.t 3), some (41, true)⟩,
        ⟨some 43, .elemAddr 2 (.t 42) (.c (.int .i64 2)), some (41, true)⟩,
        ⟨some 44, .fieldAddr 0 (.t 43), some (41, true)⟩,
        ⟨some 45, .load false 1 (.t 44), some (41, true)⟩,
        ⟨some 46, .bin .eql (.t 45) (.c (.int .i64 0)), some (41, true)⟩,
        ⟨some 47, .pick (.t 41) (.t 46) (.c (.bool false)), none⟩,
        ⟨some 48, .mv (.t 47), none⟩,
        ⟨some 49, .mv (.t 3), some (48, true)⟩,
        ⟨some 50, .elemAddr 2 (.t 49) (.c (.int .i64 3)), some (48, true)⟩,
        ⟨some 51, .fieldAddr 0 (.t 50), some (48, true)⟩,
        ⟨some 52, .load false 1 (.t 51), some (48, true)⟩,
        ⟨some 53, .bin .eql (.t 52) (.c (.int .i64 2)), some (48, true)⟩,
        ⟨some 54, .pick (.t 48) (.t 53) (.c (.bool false)), none⟩,
        ⟨some 0, .mv (.t 54), none⟩]) (
      .ret))))))))))⟩

def a14 : AFunc := ⟨[.tmp 4, .tmp 5],
 (.seq (
  .region [] [
    ⟨some 4, .mv (.c .nilsl), none⟩,
    ⟨some 5, .mv (.c (.int .i64 0)), none⟩]) (
  (.seq (
   (.seq (
    .region [] [
      ⟨some 9, .mv (.t 0), none⟩,
      ⟨some 10, .mv (.t 1), none⟩,
      ⟨some 11, .callf 1 (.c (.fn 27 [])) [(.t 9), (.t 10)], none⟩,
      ⟨some 6, .mv (.t 11), none⟩]) (
    (.seq (
     .region [] [
       ⟨some 12, .mv (.t 6), none⟩,
       ⟨some 13, .bin .neq (.t 12) (.c (.int .i64 0)), none⟩]) (
     (.cond (.t 13) (
      (.seq (
       .region [] [
         ⟨some 14, .mv (.t 6), none⟩,
         ⟨some 4, .mv (.c .nilsl), none⟩,
         ⟨some 5, .mv (.t 14), none⟩]) (
       .ret))) (
      .skip))))))) (
   (.seq (
    .region [] [
      ⟨some 16, .mv (.t 0), none⟩,
      ⟨some 17, .mv (.t 1), none⟩,
      ⟨some 18, .callf 2 (.c (.fn 28 [])) [(.t 16), (.t 17)], none⟩,
      ⟨some 15, .mv (.t 18), none⟩,
      ⟨some 19, .ext (.t 15) 0, none⟩,
      ⟨some 20, .ext (.t 15) 1, none⟩,
      ⟨some 8, .alloc 3 [(.int .i64 0), (.int .i64 0), (.int .i64 0), (.int .i64 0), (.int .i64 0), (.int .i64 0), (.int .i64 0), (.int .i64 0), (.int .i64 0), (.int .i64 0), (.int .i64 0), (.int .i64 0), (.int .i64 0), (.int .i64 0), (.int .i64 0), (.int .i64 0), (.int .i64 0), (.int .i64 0), (.int .i64 0), (.int .i64 0), (.int .i64 0), (.int .i64 0), (.int .i64 0), (.int .i64 0), (.int .i64 0), (.int .i64 0), (.int .i64 0), (.int .i64 0), (.int .i64 0), (.int .i64 0), (.int .i64 0), (.int .i64 0), (.int .i64 0), (.int .i64 0), (.int .i64 0), (.int .i64 0), (.int .i64 0), (.int .i64 0), (.int .i64 0), (.int .i64 0), (.int .i64 0), (.int .i64 0), (.int .i64 0), (.int .i64 0), (.int .i64 0), (.int .i64 0), (.int .i64 0), (.int .i64 0), (.int .i64 0), (.int .i64 0), (.int .i64 0), (.int .i64 0), (.int .i64 0), (.int .i64 0), (.int .i64 0), (.int .i64 0), (.int .i64 0), (.int .i64 0), (.int .i64 0), (.int .i64 0), (.int .i64 0), (.int .i64 0), (.int .i64 0), (.int .i64 0), (.int .i64 0), (.int .i64 0), (.int .i64 0), (.int .i64 0), (.int .i64 0), (.int .i64 0), (.int .i64 0), (.int .i64 0), (.int .i64 0), (.int .i64 0), (.int .i64 0), (.int .i64 0), (.int .i64 0)], none⟩,
      ⟨some 7, .mv (.t 19), none⟩,
      ⟨none, .store 77 (.t 8) (.t 20), none⟩]) (
    (.seq (
     .region [] [
       ⟨some 21, .mv (.t 7), none⟩,
       ⟨some 4, .mv (.t 21), none⟩,
       ⟨some 5, .mv (.c (.int .i64 0)), none⟩]) (
     .ret))))))))⟩

def a15 : AFunc := ⟨[.tmp 2],
 (.seq (
  .region [] [
    ⟨some 2, .mv (.c .nilsl), none⟩]) (
  (.seq (
   .region [] [
     ⟨some 3, .mv (.c .nilsl), none⟩]) (
   (.seq (
    (.seq (
     .region [] [
       ⟨some 4, .mv (.c (.int .i64 0)), none⟩]) (
     (.block 0 (
      (.loop (
       (.seq (
        (.seq (
         .region [] [
           ⟨some 5, .mv (.t 4), none⟩,
           ⟨some 6, .mv (.t 0), none⟩,
           ⟨some 7, .len (.t 6), none⟩,
           ⟨some 8, .bin .lss (.t 5) (.t 7), none⟩]) (
         (.cond (.t 8) (
          .skip) (
          .exit 0))))) (
        (.seq (
         (.block 1 (
          .region [] [
            ⟨some 11, .mv (.t 3), none⟩,
            ⟨some 12, .mv (.t 0), none⟩,
            ⟨some 13, .mv (.t 4), none⟩,
            ⟨some 14, .elemAddr 6 (.t 12) (.t 13), none⟩,
            ⟨some 15, .fieldAddr 0 (.t 14), none⟩,
            ⟨some 16, .load false 1 (.t 15), none⟩,
            ⟨some 17, .mv (.t 0), none⟩,
            ⟨some 18, .mv (.t 4), none⟩,
            ⟨some 19, .elemAddr 6 (.t 17) (.t 18), none⟩,
            ⟨some 20, .fieldAddr 1 (.t 19), none⟩,
            ⟨some 21, .load true 3 (.t 20), none⟩,
            ⟨some 22, .mv (.t 0), none⟩,
            ⟨some 23, .mv (.t 4), none⟩,
            ⟨some 24, .elemAddr 6 (.t 22) (.t 23), none⟩,
            ⟨some 25, .fieldAddr 4 (.t 24), none⟩,
            ⟨some 26, .load false 1 (.t 25), none⟩,
            ⟨some 27, .mv (.t 0), none⟩,
            ⟨some 28, .mv (.t 4), none⟩,
            ⟨some 29, .elemAddr 6 (.t 27) (.t 28), none⟩,
            ⟨some 30, .fieldAddr 5 (.t 29), none⟩,
            ⟨some 31, .load false 1 (.t 30), none⟩,
            ⟨some 32, .build [(.int .i64 0), (.int .i64 0), (.int .i64 0), (.int .i64 0), (.bool false), (.int .i64 0)] [(0, 1, (.t 16)), (1, 3, (.t 21)), (4, 1, (.t 26)), (5, 1, (.t 31))], none⟩,
            ⟨some 33, .lit 6 [(.int .i64 0), (.int .i64 0), (.int .i64 0), (.int .i64 0), (.bool false), (.int .i64 0)] 1 [(0, 6, (.t 32))], none⟩,
            ⟨some 34, .app 1 6 48 (.t 11) (.t 33), none⟩,
            ⟨some 3, .mv (.t 34), none⟩]))) (
         .region [] [
           ⟨some 9, .mv (.t 4), none⟩,
           ⟨some 10, .bin .add (.t 9) (.c (.int .i64 1)), none⟩,
           ⟨some 4, .mv (.t 10), none⟩]))))))))))) (
    (.seq (
     .region [] [
       ⟨some 35, .mv (.t 3), none⟩,
       ⟨some 2, .mv (.t 35), none⟩]) (
     .ret))))))))⟩

def a16 : AFunc := ⟨[.tmp 4],
 (.seq (
  .region [] [
    ⟨some 4, .mv (.c (.int .i64 0)), none⟩]) (
  (.seq (
   (.seq (
    .region [] [
      ⟨some 7, .mv (.t 0), none⟩,
      ⟨some 8, .bin .lss (.t 7) (.c (.int .i64 (-7))), none⟩,
      ⟨some 9, .mv (.t 8), none⟩,
      ⟨some 10, .mv (.t 0), some (9, false)⟩,
      ⟨some 11, .bin .gtr (.t 10) (.c (.int .i64 7)), some (9, false)⟩,
      ⟨some 12, .pick (.t 9) (.c (.bool true)) (.t 11), none⟩]) (
    (.cond (.t 12) (
     (.seq (
      .region [] [
        ⟨some 4, .mv (.c (.int .i64 2)), none⟩]) (
      .ret))) (
     .skip))))) (
   (.seq (
    (.seq (
     .region [] [
       ⟨some 13, .mv (.t 1), none⟩,
       ⟨some 14, .len (.t 13), none⟩,
       ⟨some 15, .bin .gtr (.t 14) (.c (.int .i64 2560)), none⟩]) (
     (.cond (.t 15) (
      (.seq (
       .region [] [
         ⟨some 4, .mv (.c (.int .i64 9)), none⟩]) (
       .ret))) (
      .skip))))) (
    (.seq (
     (.seq (
      .region [] [
        ⟨some 5, .mv (.c (.int .i64 0)), none⟩]) (
      (.block 0 (
       (.loop (
        (.seq (
         (.seq (
          .region [] [
            ⟨some 16, .mv (.t 5), none⟩,
            ⟨some 17, .mv (.t 1), none⟩,
            ⟨some 18, .len (.t 17), none⟩,
            ⟨some 19, .bin .lss (.t 16) (.t 18), none⟩]) (
          (.cond (.t 19) (
           .skip) (
           .exit 0))))) (
         (.seq (
          (.block 1 (
           (.seq (
            (.seq (
             .region [] [
               ⟨some 22, .mv (.t 1), none⟩,
               ⟨some 23, .mv (.t 5), none⟩,
               ⟨some 24, .elemAddr 6 (.t 22) (.t 23), none⟩,
               ⟨some 25, .fieldAddr 0 (.t 24), none⟩,
               ⟨some 26, .load false 1 (.t 25), none⟩,
               ⟨some 27, .bin .lss (.t 26) (.c (.int .i64 0)), none⟩,
               ⟨some 28, .mv (.t 27), none⟩,
               ⟨some 29, .mv (.t 5), some (28, false)⟩,
               ⟨some 30, .bin .gtr (.t 29) (.c (.int .i64 0)), some (28, false)⟩,
               ⟨some 31, .mv (.t 30), some (28, false)⟩,
               ⟨some 32, .mv (.t 1), some (31, true)⟩,
               ⟨some 33, .mv (.t 5), some (31, true)⟩,
               ⟨some 34, .elemAddr 6 (.t 32) (.t 33), some (31, true)⟩,
               ⟨some 35, .fieldAddr 0 (.t 34), some (31, true)⟩,
               ⟨some 36, .load false 1 (.t 35), some (31, true)⟩,
               ⟨some 37, .mv (.t 1), some (31, true)⟩,
               ⟨some 38, .mv (.t 5), some (31, true)⟩,
               ⟨some 39, .bin .sub (.t 38) (.c (.int .i64 1)), some (31, true)⟩,
               ⟨some 40, .elemAddr 6 (.t 37) (.t 39), some (31, true)⟩,
               ⟨some 41, .fieldAddr 0 (.t 40), some (31, true)⟩,
               ⟨some 42, .load false 1 (.t 41), some (31, true)⟩,
               ⟨some 43, .bin .lss (.t 36) (.t 42), some (31, true)⟩,
               ⟨some 44, .pick (.t 31) (.t 43) (.c (.bool false)), some (28, false)⟩,
               ⟨some 45, .pick (.t 28) (.c (.bool true)) (.t 44), none⟩]) (
             (.cond (.t 45) (
              (.seq (
               .region [] [
                 ⟨some 4, .mv (.c (.int .i64 25)), none⟩]) (
               .ret))) (
              .skip))))) (
            (.seq (
             .region [] [
               ⟨some 46, .mv (.t 1), none⟩,
               ⟨some 47, .mv (.t 5), none⟩,
               ⟨some 48, .elemAddr 6 (.t 46) (.t 47), none⟩,
               ⟨some 49, .fieldAddr 1 (.t 48), none⟩,
               ⟨some 50, .load true 3 (.t 49), none⟩,
               ⟨some 6, .alloc 1 [(.int .i64 0), (.int .i64 0), (.int .i64 0)], none⟩,
               ⟨none, .store 3 (.t 6) (.t 50), none⟩]) (
             (.seq (
              (.seq (
               .region [] [
                 ⟨some 51, .fieldAddr 0 (.t 6), none⟩,
                 ⟨some 52, .load false 1 (.t 51), none⟩,
                 ⟨some 53, .bin .lss (.t 52) (.c (.int .i64 0)), none⟩,
                 ⟨some 54, .mv (.t 53), none⟩,
                 ⟨some 55, .fieldAddr 0 (.t 6), some (54, false)⟩,
                 ⟨some 56, .load false 1 (.t 55), some (54, false)⟩,
                 ⟨some 57, .bin .gtr (.t 56) (.c (.int .i64 6)), some (54, false)⟩,
                 ⟨some 58, .pick (.t 54) (.c (.bool true)) (.t 57), none⟩,
                 ⟨some 59, .mv (.t 58), none⟩,
                 ⟨some 60, .fieldAddr 1 (.t 6), some (59, false)⟩,
                 ⟨some 61, .load false 1 (.t 60), some (59, false)⟩,
                 ⟨some 62, .bin .lss (.t 61) (.c (.int .i64 (-2))), some (59, false)⟩,
                 ⟨some 63, .pick (.t 59) (.c (.bool true)) (.t 62), none⟩,
                 ⟨some 64, .mv (.t 63), none⟩,
                 ⟨some 65, .fieldAddr 1 (.t 6), some (64, false)⟩,
                 ⟨some 66, .load false 1 (.t 65), some (64, false)⟩,
                 ⟨some 67, .bin .gtr (.t 66) (.c (.int .i64 2)), some (64, false)⟩,
                 ⟨some 68, .pick (.t 64) (.c (.bool true)) (.t 67), none⟩,
                 ⟨some 69, .mv (.t 68), none⟩,
                 ⟨some 70, .fieldAddr 2 (.t 6), some (69, false)⟩,
                 ⟨some 71, .load false 1 (.t 70), some (69, false)⟩,
                 ⟨some 72, .bin .lss (.t 71) (.c (.int .i64 (-1))), some (69, false)⟩,
                 ⟨some 73, .pick (.t 69) (.c (.bool true)) (.t 72), none⟩,
                 ⟨some 74, .mv (.t 73), none⟩,
                 ⟨some 75, .fieldAddr 2 (.t 6), some (74, false)⟩,
                 ⟨some 76, .load false 1 (.t 75), some (74, false)⟩,
                 ⟨some 77, .bin .gtr (.t 76) (.c (.int .i64 9)), some (74, false)⟩,
                 ⟨some 78, .pick (.t 74) (.c (.bool true)) (.t 77), none⟩]) (
               (.cond (.t 78) (
                (.seq (
                 .region [] [
                   ⟨some 4, .mv (.c (.int .i64 18)), none⟩]) (
                 .ret))) (
                .skip))))) (
              (.seq (
               .region [] [
                 ⟨some 79, .mv (.t 1), none⟩,
                 ⟨some 80, .mv (.t 5), none⟩,
                 ⟨some 81, .elemAddr 6 (.t 79) (.t 80), none⟩,
                 ⟨some 82, .fieldAddr 5 (.t 81), none⟩,
                 ⟨some 83, .load false 1 (.t 82), none⟩,
                 ⟨some 84, .bin .lss (.t 83) (.c (.int .i64 0)), none⟩,
                 ⟨some 85, .mv (.t 84), none⟩,
                 ⟨some 86, .mv (.t 1), some (85, false)⟩,
                 ⟨some 87, .mv (.t 5), some (85, false)⟩,
                 ⟨some 88, .elemAddr 6 (.t 86) (.t 87), some (85, false)⟩,
                 ⟨some 89, .fieldAddr 5 (.t 88), some (85, false)⟩,
                 ⟨some 90, .load false 1 (.t 89), some (85, false)⟩,
                 ⟨some 91, .bin .gtr (.t 90) (.c (.int .i64 2)), some (85, false)⟩,
                 ⟨some 92, .pick (.t 85) (.c (.bool true)) (.t 91), none⟩]) (
               (.cond (.t 92) (
                (.seq (
                 .region [] [
                   ⟨some 4, .mv (.c (.int .i64 11)), none⟩]) (
                 .ret))) (
                .skip))))))))))))) (
          .region [] [
            ⟨some 20, .mv (.t 5), none⟩,
            ⟨some 21, .bin .add (.t 20) (.c (.int .i64 1)), none⟩,
            ⟨some 5, .mv (.t 21), none⟩]))))))))))) (
     (.seq (
      .region [] [
        ⟨some 4, .mv (.c (.int .i64 0)), none⟩]) (
      .ret))))))))))⟩

def a17 : AFunc := ⟨[.tmp 4, .tmp 5],
 (.seq (
  .region [] [
    ⟨some 4, .mv (.c .nilsl), none⟩,
    ⟨some 5, .mv (.c .nilsl), none⟩]) (
  (.seq (
   .region [] [
     ⟨some 13, .mv (.t 0), none⟩,
     ⟨some 14, .callf 1 (.c (.fn 29 [])) [(.t 13)], none⟩,
     ⟨some 6, .mv (.t 14), none⟩]) (
   (.seq (
    .region [] [
      ⟨some 7, .mv (.c .nilsl), none⟩]) (
    (.seq (
     (.seq (
      .region [] [
        ⟨some 8, .mv (.c (.int .i64 0)), none⟩]) (
      (.block 0 (
       (.loop (
        (.seq (
         (.seq (
          .region [] [
            ⟨some 15, .mv (.t 8), none⟩,
            ⟨some 16, .mv (.t 1), none⟩,
            ⟨some 17, .len (.t 16), none⟩,
            ⟨some 18, .bin .lss (.t 15) (.t 17), none⟩]) (
          (.cond (.t 18) (
           .skip) (
           .exit 0))))) (
         (.seq (
          (.block 1 (
           (.seq (
            .region [] [
              ⟨some 21, .mv (.t 1), none⟩,
              ⟨some 22, .mv (.t 8), none⟩,
              ⟨some 23, .elemAddr 6 (.t 21) (.t 22), none⟩,
              ⟨some 24, .load true 6 (.t 23), none⟩,
              ⟨some 9, .alloc 2 [(.int .i64 0), (.int .i64 0), (.int .i64 0), (.int .i64 0), (.bool false), (.int .i64 0)], none⟩,
              ⟨none, .store 6 (.t 9) (.t 24), none⟩]) (
            (.seq (
             .region [] [
               ⟨some 25, .fieldAddr 1 (.t 9), none⟩,
               ⟨some 26, .fieldAddr 0 (.t 25), none⟩,
               ⟨some 27, .load false 1 (.t 26), none⟩,
               ⟨some 28, .fieldAddr 1 (.t 9), none⟩,
               ⟨some 29, .fieldAddr 2 (.t 28), none⟩,
               ⟨some 30, .load false 1 (.t 29), none⟩,
               ⟨some 31, .callf 3 (.c (.fn 30 [])) [(.t 27), (.t 30)], none⟩,
               ⟨some 10, .mv (.t 31), none⟩]) (
             (.seq (
              .region [] [
                ⟨some 32, .fieldAddr 4 (.t 9), none⟩,
                ⟨some 33, .load false 1 (.t 32), none⟩,
                ⟨some 34, .not (.t 33), none⟩,
                ⟨some 35, .mv (.t 34), none⟩,
                ⟨some 36, .fieldAddr 1 (.t 9), some (35, true)⟩,
                ⟨some 37, .fieldAddr 1 (.t 36), some (35, true)⟩,
                ⟨some 38, .load false 1 (.t 37), some (35, true)⟩,
                ⟨some 39, .mv (.t 6), some (35, true)⟩,
                ⟨some 40, .mv (.t 10), some (35, true)⟩,
                ⟨some 41, .elemAddr 1 (.t 39) (.t 40), some (35, true)⟩,
                ⟨some 42, .load false 1 (.t 41), some (35, true)⟩,
                ⟨some 43, .bin .neq (.t 38) (.t 42), some (35, true)⟩,
                ⟨some 44, .pick (.t 35) (.t 43) (.c (.bool false)), none⟩,
                ⟨some 45, .mv (.t 44), none⟩,
                ⟨some 46, .mv (.t 1), some (45, false)⟩,
                ⟨some 47, .mv (.t 8), some (45, false)⟩,
                ⟨some 48, .callf 4 (.c (.fn 26 [])) [(.t 46), (.t 47)], some (45, false)⟩,
                ⟨some 49, .pick (.t 45) (.c (.bool true)) (.t 48), none⟩,
                ⟨some 11, .mv (.t 49), none⟩]) (
              (.seq (
               .region [] [
                 ⟨some 50, .build [(.int .i64 0), (.bool false)] [], none⟩,
                 ⟨some 12, .alloc 5 [(.int .i64 0), (.bool false)], none⟩,
                 ⟨none, .store 2 (.t 12) (.t 50), none⟩]) (
               (.seq (
                (.seq (
                 .region [] [
                   ⟨some 51, .mv (.t 11), none⟩,
                   ⟨some 52, .mv (.t 51), none⟩,
                   ⟨some 53, .fieldAddr 5 (.t 9), some (52, false)⟩,
                   ⟨some 54, .load false 1 (.t 53), some (52, false)⟩,
                   ⟨some 55, .bin .neq (.t 54) (.c (.int .i64 0)), some (52, false)⟩,
                   ⟨some 56, .pick (.t 52) (.c (.bool true)) (.t 55), none⟩]) (
                 (.cond (.t 56) (
                  (.seq (
                   .region [] [
                     ⟨some 57, .fieldAddr 1 (.t 9), none⟩,
                     ⟨some 58, .fieldAddr 1 (.t 57), none⟩,
                     ⟨some 59, .load false 1 (.t 58), none⟩,
                     ⟨some 60, .bin .add (.t 59) (.c (.int .i64 3)), none⟩,
                     ⟨some 61, .mv (.t 11), none⟩,
                     ⟨some 62, .not (.t 61), none⟩,
                     ⟨some 63, .mv (.t 62), none⟩,
                     ⟨some 64, .fieldAddr 5 (.t 9), some (63, true)⟩,
                     ⟨some 65, .load false 1 (.t 64), some (63, true)⟩,
                     ⟨some 66, .bin .eql (.t 65) (.c (.int .i64 2)), some (63, true)⟩,
                     ⟨some 67, .pick (.t 63) (.t 66) (.c (.bool false)), none⟩,
                     ⟨some 68, .build [(.int .i64 0), (.bool false)] [(0, 1, (.t 60)), (1, 1, (.t 67))], none⟩,
                     ⟨none, .store 2 (.t 12) (.t 68), none⟩]) (
                   .region [] [
                     ⟨some 69, .mv (.t 6), none⟩,
                     ⟨some 70, .mv (.t 10), none⟩,
                     ⟨some 71, .fieldAddr 1 (.t 9), none⟩,
                     ⟨some 72, .fieldAddr 1 (.t 71), none⟩,
                     ⟨some 73, .load false 1 (.t 72), none⟩,
                     ⟨some 74, .elemAddr 1 (.t 69) (.t 70), none⟩,
                     ⟨none, .store 1 (.t 74) (.t 73), none⟩]))) (
                  .skip))))) (
                .region [] [
                  ⟨some 75, .mv (.t 7), none⟩,
                  ⟨some 76, .load true 2 (.t 12), none⟩,
                  ⟨some 77, .lit 2 [(.int .i64 0), (.bool false)] 1 [(0, 2, (.t 76))], none⟩,
                  ⟨some 78, .app 6 2 16 (.t 75) (.t 77), none⟩,
                  ⟨some 7, .mv (.t 78), none⟩]))))))))))))) (
          .region [] [
            ⟨some 19, .mv (.t 8), none⟩,
            ⟨some 20, .bin .add (.t 19) (.c (.int .i64 1)), none⟩,
            ⟨some 8, .mv (.t 20), none⟩]))))))))))) (
     (.seq (
      .region [] [
        ⟨some 79, .mv (.t 7), none⟩,
        ⟨some 80, .mv (.t 6), none⟩,
        ⟨some 4, .mv (.t 79), none⟩,
        ⟨some 5, .mv (.t 80), none⟩]) (
      .ret))))))))))⟩

def a18 : AFunc := ⟨[.tmp 4],
 (.seq (
  .region [] [
    ⟨some 4, .mv (.c (.bool false)), none⟩]) (
  (.seq (
   (.seq (
    .region [] [
      ⟨some 6, .mv (.t 0), none⟩,
      ⟨some 7, .len (.t 6), none⟩,
      ⟨some 8, .mv (.t 1), none⟩,
      ⟨some 9, .len (.t 8), none⟩,
      ⟨some 10, .bin .neq (.t 7) (.t 9), none⟩]) (
    (.cond (.t 10) (
     (.seq (
      .region [] [
        ⟨some 4, .mv (.c (.bool false)), none⟩]) (
      .ret))) (
     .skip))))) (
   (.seq (
    (.seq (
     .region [] [
       ⟨some 5, .mv (.c (.int .i64 0)), none⟩]) (
     (.block 0 (
      (.loop (
       (.seq (
        (.seq (
         .region [] [
           ⟨some 11, .mv (.t 5), none⟩,
           ⟨some 12, .mv (.t 0), none⟩,
           ⟨some 13, .len (.t 12), none⟩,
           ⟨some 14, .bin .lss (.t 11) (.t 13), none⟩]) (
         (.cond (.t 14) (
          .skip) (
          .exit 0))))) (
        (.seq (
         (.block 1 (
          (.seq (
           .region [] [
             ⟨some 17, .mv (.t 0), none⟩,
             ⟨some 18, .mv (.t 5), none⟩,
             ⟨some 19, .elemAddr 2 (.t 17) (.t 18), none⟩,
             ⟨some 20, .fieldAddr 0 (.t 19), none⟩,
             ⟨some 21, .load false 1 (.t 20), none⟩,
             ⟨some 22, .mv (.t 1), none⟩,
             ⟨some 23, .mv (.t 5), none⟩,
             ⟨some 24, .elemAddr 2 (.t 22) (.t 23), none⟩,
             ⟨some 25, .fieldAddr 0 (.t 24), none⟩,
             ⟨some 26, .load false 1 (.t 25), none⟩,
             ⟨some 27, .bin .neq (.t 21) (.t 26), none⟩,
             ⟨some 28, .mv (.t 27), none⟩,
             ⟨some 29, .mv (.t 0), some (28, false)⟩,
             ⟨some 30, .mv (.t 5), some (28, false)⟩,
             ⟨some 31, .elemAddr 2 (.t 29) (.t 30), some (28, false)⟩,
             ⟨some 32, .fieldAddr 1 (.t 31), some (28, false)⟩,
             ⟨some 33, .load false 1 (.t 32), some (28, false)⟩,
             ⟨some 34, .mv (.t 1), some (28, false)⟩,
             ⟨some 35, .mv (.t 5), some (28, false)⟩,
             ⟨some 36, .elemAddr 2 (.t 34) (.t 35), some (28, false)⟩,
             ⟨some 37, .fieldAddr 1 (.t 36), some (28, false)⟩,
             ⟨some 38, .load false 1 (.t 37), some (28, false)⟩,
             ⟨some 39, .eqb true (.t 33) (.t 38), some (28, false)⟩,
             ⟨some 40, .pick (.t 28) (.c (.bool true)) (.t 39), none⟩]) (
           (.cond (.t 40) (
            (.seq (
             .region [] [
               ⟨some 4, .mv (.c (.bool false)), none⟩]) (
             .ret))) (
            .skip))))))) (
         .region [] [
           ⟨some 15, .mv (.t 5), none⟩,
           ⟨some 16, .bin .add (.t 15) (.c (.int .i64 1)), none⟩,
           ⟨some 5, .mv (.t 16), none⟩]))))))))))) (
    (.seq (
     .region [] [
       ⟨some 4, .mv (.c (.bool true)), none⟩]) (
     .ret))))))))⟩

def a19 : AFunc := ⟨[.tmp 4],
 (.seq (
  .region [] [
    ⟨some 4, .mv (.c (.int .i64 0)), none⟩]) (
  (.seq (
   .region [] [
     ⟨some 7, .lit 1 [(.int .i64 0)] 7 [(0, 1, (.c (.int .i64 3))), (1, 1, (.c (.int .i64 0))), (2, 1, (.c (.int .i64 4))), (3, 1, (.c (.int .i64 1))), (4, 1, (.c (.int .i64 5))), (5, 1, (.c (.int .i64 2))), (6, 1, (.c (.int .i64 6)))], none⟩,
     ⟨some 5, .mv (.t 7), none⟩]) (
   (.seq (
    (.seq (
     .region [] [
       ⟨some 6, .mv (.c (.int .i64 0)), none⟩]) (
     (.block 0 (
      (.loop (
       (.seq (
        (.seq (
         .region [] [
           ⟨some 8, .mv (.t 6), none⟩,
           ⟨some 9, .bin .lss (.t 8) (.c (.int .i64 7)), none⟩]) (
         (.cond (.t 9) (
          .skip) (
          .exit 0))))) (
        (.seq (
         (.block 1 (
          (.seq (
           (.seq (
            .region [] [
              ⟨some 12, .mv (.t 5), none⟩,
              ⟨some 13, .mv (.t 6), none⟩,
              ⟨some 14, .elemAddr 1 (.t 12) (.t 13), none⟩,
              ⟨some 15, .load false 1 (.t 14), none⟩,
              ⟨some 16, .mv (.t 1), none⟩,
              ⟨some 17, .bin .eql (.t 15) (.t 16), none⟩,
              ⟨some 18, .mv (.t 17), none⟩,
              ⟨some 19, .mv (.t 6), some (18, true)⟩,
              ⟨some 20, .mv (.t 0), some (18, true)⟩,
              ⟨some 21, .bin .lss (.t 19) (.t 20), some (18, true)⟩,
              ⟨some 22, .pick (.t 18) (.t 21) (.c (.bool false)), none⟩]) (
            (.cond (.t 22) (
             (.seq (
              .region [] [
                ⟨some 4, .mv (.c (.int .i64 1)), none⟩]) (
              .ret))) (
             .skip))))) (
           (.seq (
            .region [] [
              ⟨some 23, .mv (.t 5), none⟩,
              ⟨some 24, .mv (.t 6), none⟩,
              ⟨some 25, .bin .sub (.c (.int .i64 6)) (.t 24), none⟩,
              ⟨some 26, .elemAddr 1 (.t 23) (.t 25), none⟩,
              ⟨some 27, .load false 1 (.t 26), none⟩,
              ⟨some 28, .mv (.t 1), none⟩,
              ⟨some 29, .bin .eql (.t 27) (.t 28), none⟩,
              ⟨some 30, .mv (.t 29), none⟩,
              ⟨some 31, .mv (.t 6), some (30, true)⟩,
              ⟨some 32, .mv (.t 0), some (30, true)⟩,
              ⟨some 33, .neg (.t 32), some (30, true)⟩,
              ⟨some 34, .bin .lss (.t 31) (.t 33), some (30, true)⟩,
              ⟨some 35, .pick (.t 30) (.t 34) (.c (.bool false)), none⟩]) (
            (.cond (.t 35) (
             (.seq (
              .region [] [
                ⟨some 4, .mv (.c (.int .i64 (-1))), none⟩]) (
              .ret))) (
             .skip))))))))) (
         .region [] [
           ⟨some 10, .mv (.t 6), none⟩,
           ⟨some 11, .bin .add (.t 10) (.c (.int .i64 1)), none⟩,
           ⟨some 6, .mv (.t 11), none⟩]))))))))))) (
    (.seq (
     .region [] [
       ⟨some 4, .mv (.c (.int .i64 0)), none⟩]) (
     .ret))))))))⟩

def a20 : AFunc := ⟨[.tmp 2, .tmp 3],
 (.seq (
  .region [] [
    ⟨some 2, .mv (.c (.int .i64 0)), none⟩,
    ⟨some 3, .mv (.c (.int .i64 0)), none⟩]) (
  (.seq (
   (.seq (
    .region [] [
      ⟨some 4, .mv (.t 0), none⟩,
      ⟨some 5, .call 0 (.c (.fn 31 [])) [(.t 4), (.c (.int .i64 (-2))), (.c (.int .i64 2))], none⟩,
      ⟨some 6, .not (.t 5), none⟩]) (
    (.cond (.t 6) (
     (.seq (
      .region [] [
        ⟨some 2, .mv (.c (.int .i64 0)), none⟩,
        ⟨some 3, .mv (.c (.int .i64 2)), none⟩]) (
      .ret))) (
     .skip))))) (
   (.seq (
    .region [] [
      ⟨some 7, .mv (.t 0), none⟩,
      ⟨some 8, .bin .add (.t 7) (.c (.int .i64 3)), none⟩,
      ⟨some 2, .mv (.t 8), none⟩,
      ⟨some 3, .mv (.c (.int .i64 0)), none⟩]) (
    .ret))))))⟩

def a21 : AFunc := ⟨[.tmp 2, .tmp 3],
 (.seq (
  .region [] [
    ⟨some 2, .mv (.c (.int .i64 0)), none⟩,
    ⟨some 3, .mv (.c (.int .i64 0)), none⟩]) (
  (.seq (
   (.seq (
    .region [] [
      ⟨some 4, .mv (.t 0), none⟩,
      ⟨some 5, .call 0 (.c (.fn 31 [])) [(.t 4), (.c (.int .i64 1)), (.c (.int .i64 5))], none⟩,
      ⟨some 6, .not (.t 5), none⟩]) (
    (.cond (.t 6) (
     (.seq (
      .region [] [
        ⟨some 2, .mv (.c (.int .i64 0)), none⟩,
        ⟨some 3, .mv (.c (.int .i64 11)), none⟩]) (
      .ret))) (
     .skip))))) (
   (.seq (
    .region [] [
      ⟨some 7, .mv (.t 0), none⟩,
      ⟨some 8, .bin .sub (.t 7) (.c (.int .i64 3)), none⟩,
      ⟨some 2, .mv (.t 8), none⟩,
      ⟨some 3, .mv (.c (.int .i64 0)), none⟩]) (
    .ret))))))⟩

def a22 : AFunc := ⟨[.cell 4 true 77, .tmp 5],
 (.seq (
  .region [] [
    ⟨some 4, .alloc 1 [(.int .i64 0), (.int .i64 0), (.int .i64 0), (.int .i64 0), (.int .i64 0), (.int .i64 0), (.int .i64 0), (.int .i64 0), (.int .i64 0), (.int .i64 0), (.int .i64 0), (.int .i64 0), (.int .i64 0), (.int .i64 0), (.int .i64 0), (.int .i64 0), (.int .i64 0), (.int .i64 0), (.int .i64 0), (.int .i64 0), (.int .i64 0), (.int .i64 0), (.int .i64 0), (.int .i64 0), (.int .i64 0), (.int .i64 0), (.int .i64 0), (.int .i64 0), (.int .i64 0), (.int .i64 0), (.int .i64 0), (.int .i64 0), (.int .i64 0), (.int .i64 0), (.int .i64 0), (.int .i64 0), (.int .i64 0), (.int .i64 0), (.int .i64 0), (.int .i64 0), (.int .i64 0), (.int .i64 0), (.int .i64 0), (.int .i64 0), (.int .i64 0), (.int .i64 0), (.int .i64 0), (.int .i64 0), (.int .i64 0), (.int .i64 0), (.int .i64 0), (.int .i64 0), (.int .i64 0), (.int .i64 0), (.int .i64 0), (.int .i64 0), (.int .i64 0), (.int .i64 0), (.int .i64 0), (.int .i64 0), (.int .i64 0), (.int .i64 0), (.int .i64 0), (.int .i64 0), (.int .i64 0), (.int .i64 0), (.int .i64 0), (.int .i64 0), (.int .i64 0), (.int .i64 0), (.int .i64 0), (.int .i64 0), (.int .i64 0), (.int .i64 0), (.int .i64 0), (.int .i64 0), (.int .i64 0)], none⟩,
    ⟨some 5, .mv (.c (.int .i64 0)), none⟩]) (
  (.seq (
   (.seq (
    .region [] [
      ⟨some 9, .mv (.t 0), none⟩,
      ⟨some 10, .mv (.t 1), none⟩,
      ⟨some 11, .call 0 (.c (.fn 27 [])) [(.t 9), (.t 10)], none⟩,
      ⟨some 6, .mv (.t 11), none⟩]) (
    (.seq (
     .region [] [
       ⟨some 12, .mv (.t 6), none⟩,
       ⟨some 13, .bin .neq (.t 12) (.c (.int .i64 0)), none⟩]) (
     (.cond (.t 13) (
      (.seq (
       .region [] [
         ⟨some 14, .build [(.int .i64 0), (.int .i64 0), (.int .i64 0), (.int .i64 0), (.int .i64 0), (.int .i64 0), (.int .i64 0), (.int .i64 0), (.int .i64 0), (.int .i64 0), (.int .i64 0), (.int .i64 0), (.int .i64 0), (.int .i64 0), (.int .i64 0), (.int .i64 0), (.int .i64 0), (.int .i64 0), (.int .i64 0), (.int .i64 0), (.int .i64 0), (.int .i64 0), (.int .i64 0), (.int .i64 0), (.int .i64 0), (.int .i64 0), (.int .i64 0), (.int .i64 0), (.int .i64 0), (.int .i64 0), (.int .i64 0), (.int .i64 0), (.int .i64 0), (.int .i64 0), (.int .i64 0), (.int .i64 0), (.int .i64 0), (.int .i64 0), (.int .i64 0), (.int .i64 0), (.int .i64 0), (.int .i64 0), (.int .i64 0), (.int .i64 0), (.int .i64 0), (.int .i64 0), (.int .i64 0), (.int .i64 0), (.int .i64 0), (.int .i64 0), (.int .i64 0), (.int .i64 0), (.int .i64 0), (.int .i64 0), (.int .i64 0), (.int .i64 0), (.int .i64 0), (.int .i64 0), (.int .i64 0), (.int .i64 0), (.int .i64 0), (.int .i64 0), (.int .i64 0), (.int .i64 0), (.int .i64 0), (.int .i64 0), (.int .i64 0), (.int .i64 0), (.int .i64 0), (.int .i64 0), (.int .i64 0), (.int .i64 0), (.int .i64 0), (.int .i64 0), (.int .i64 0), (.int .i64 0), (.int .i64 0)] [], none⟩,
         ⟨some 15, .mv (.t 6), none⟩,
         ⟨none, .store 77 (.t 4) (.t 14), none⟩,
         ⟨some 5, .mv (.t 15), none⟩]) (
       .ret))) (
      .skip))))))) (
   (.seq (
    .region [] [
      ⟨some 17, .mv (.t 0), none⟩,
      ⟨some 18, .mv (.t 1), none⟩,
      ⟨some 19, .call 0 (.c (.fn 28 [])) [(.t 17), (.t 18)], none⟩,
      ⟨some 16, .mv (.t 19), none⟩,
      ⟨some 20, .ext (.t 16) 0, none⟩,
      ⟨some 21, .ext (.t 16) 1, none⟩,
      ⟨some 8, .alloc 2 [(.int .i64 0), (.int .i64 0), (.int .i64 0), (.int .i64 0), (.int .i64 0), (.int .i64 0), (.int .i64 0), (.int .i64 0), (.int .i64 0), (.int .i64 0), (.int .i64 0), (.int .i64 0), (.int .i64 0), (.int .i64 0), (.int .i64 0), (.int .i64 0), (.int .i64 0), (.int .i64 0), (.int .i64 0), (.int .i64 0), (.int .i64 0), (.int .i64 0), (.int .i64 0), (.int .i64 0), (.int .i64 0), (.int .i64 0), (.int .i64 0), (.int .i64 0), (.int .i64 0), (.int .i64 0), (.int .i64 0), (.int .i64 0), (.int .i64 0), (.int .i64 0), (.int .i64 0), (.int .i64 0), (.int .i64 0), (.int .i64 0), (.int .i64 0), (.int .i64 0), (.int .i64 0), (.int .i64 0), (.int .i64 0), (.int .i64 0), (.int .i64 0), (.int .i64 0), (.int .i64 0), (.int .i64 0), (.int .i64 0), (.int .i64 0), (.int .i64 0), (.int .i64 0), (.int .i64 0), (.int .i64 0), (.int .i64 0), (.int .i64 0), (.int .i64 0), (.int .i64 0), (.int .i64 0), (.int .i64 0), (.int .i64 0), (.int .i64 0), (.int .i64 0), (.int .i64 0), (.int .i64 0), (.int .i64 0), (.int .i64 0), (.int .i64 0), (.int .i64 0), (.int .i64 0), (.int .i64 0), (.int .i64 0), (.int .i64 0), (.int .i64 0), (.int .i64 0), (.int .i64 0), (.int .i64 0)], none⟩,
      ⟨some 7, .mv (.t 20), none⟩,
      ⟨none, .store 77 (.t 8) (.t 21), none⟩]) (
    (.seq (
     .region [] [
       ⟨some 22, .load true 77 (.t 8), none⟩,
       ⟨none, .store 77 (.t 4) (.t 22), none⟩,
       ⟨some 5, .mv (.c (.int .i64 0)), none⟩]) (
     .ret))))))))⟩

def a23 : AFunc := ⟨[.tmp 4, .tmp 5],
 (.seq (
  .region [] [
    ⟨some 4, .mv (.c .nilsl), none⟩,
    ⟨some 5, .mv (.c (.int .i64 0)), none⟩]) (
  (.seq (
   (.seq (
    .region [] [
      ⟨some 13, .mv (.t 0), none⟩,
      ⟨some 14, .mv (.t 1), none⟩,
      ⟨some 15, .call 0 (.c (.fn 32 [])) [(.t 13), (.t 14)], none⟩,
      ⟨some 6, .mv (.t 15), none⟩]) (
    (.seq (
     .region [] [
       ⟨some 16, .mv (.t 6), none⟩,
       ⟨some 17, .bin .neq (.t 16) (.c (.int .i64 0)), none⟩]) (
     (.cond (.t 17) (
      (.seq (
       .region [] [
         ⟨some 18, .mv (.t 6), none⟩,
         ⟨some 4, .mv (.c .nilsl), none⟩,
         ⟨some 5, .mv (.t 18), none⟩]) (
       .ret))) (
      .skip))))))) (
   (.seq (
    .region [] [
      ⟨some 19, .mv (.t 0), none⟩,
      ⟨some 20, .call 0 (.c (.fn 33 [])) [(.t 19)], none⟩,
      ⟨some 7, .alloc 1 [(.int .i64 0), (.int .i64 0), (.int .i64 0), (.int .i64 0), (.int .i64 0), (.int .i64 0), (.int .i64 0), (.int .i64 0), (.int .i64 0), (.int .i64 0), (.int .i64 0), (.int .i64 0), (.int .i64 0), (.int .i64 0), (.int .i64 0), (.int .i64 0), (.int .i64 0), (.int .i64 0), (.int .i64 0), (.int .i64 0), (.int .i64 0), (.int .i64 0), (.int .i64 0), (.int .i64 0), (.int .i64 0), (.int .i64 0), (.int .i64 0), (.int .i64 0), (.int .i64 0), (.int .i64 0), (.int .i64 0), (.int .i64 0), (.int .i64 0), (.int .i64 0), (.int .i64 0), (.int .i64 0), (.int .i64 0), (.int .i64 0), (.int .i64 0), (.int .i64 0), (.int .i64 0), (.int .i64 0), (.int .i64 0), (.int .i64 0), (.int .i64 0), (.int .i64 0), (.int .i64 0), (.int .i64 0), (.int .i64 0), (.int .i64 0), (.int .i64 0), (.int .i64 0), (.int .i64 0), (.int .i64 0), (.int .i64 0), (.int .i64 0), (.int .i64 0), (.int .i64 0), (.int .i64 0), (.int .i64 0), (.int .i64 0), (.int .i64 0), (.int .i64 0), (.int .i64 0), (.int .i64 0), (.int .i64 0), (.int .i64 0), (.int .i64 0), (.int .i64 0), (.int .i64 0), (.int .i64 0), (.int .i64 0), (.int .i64 0), (.int .i64 0), (.int .i64 0), (.int .i64 0), (.int .i64 0)], none⟩,
      ⟨none, .store 77 (.t 7) (.t 20), none⟩]) (
    (.seq (
     .region [] [
       ⟨some 8, .mv (.c .nilsl), none⟩]) (
     (.seq (
      (.seq (
       .region [] [
         ⟨some 21, .mv (.t 1), none⟩,
         ⟨some 22, .len (.t 21), none⟩,
         ⟨some 23, .mv (.c (.int .i64 0)), none⟩]) (
       (.block 0 (
        (.loop (
         (.seq (
          .region [] [
            ⟨some 24, .bin .lss (.t 23) (.t 22), none⟩]) (
          (.seq (
           (.cond (.t 24) (
            .skip) (
            .exit 0))) (
           (.seq (
            (.block 1 (
             (.seq (
              .region [] [
                ⟨some 25, .elemAddr 7 (.t 21) (.t 23), none⟩,
                ⟨some 26, .load true 7 (.t 25), none⟩,
                ⟨some 10, .alloc 2 [(.int .i64 0), (.int .i64 0), (.int .i64 0), (.int .i64 0), (.bool false), (.bool false), (.int .i64 0)], none⟩,
                ⟨none, .store 7 (.t 10) (.t 26), none⟩]) (
              (.seq (
               .region [] [
                 ⟨some 27, .fieldAddr 1 (.t 10), none⟩,
                 ⟨some 28, .load false 1 (.t 27), none⟩,
                 ⟨some 29, .fieldAddr 2 (.t 10), none⟩,
                 ⟨some 30, .load false 1 (.t 29), none⟩,
                 ⟨some 31, .call 0 (.c (.fn 34 [])) [(.t 28), (.t 30)], none⟩,
                 ⟨some 32, .arrAddr 77 1 (.t 7) (.t 31), none⟩,
                 ⟨some 11, .mv (.t 32), none⟩]) (
               (.seq (
                .region [] [
                  ⟨some 33, .mv (.t 11), none⟩,
                  ⟨some 34, .nilck (.t 33), none⟩,
                  ⟨some 35, .load false 1 (.t 34), none⟩,
                  ⟨some 12, .mv (.t 35), none⟩]) (
                (.seq (
                 (.block 2 (
                  (.seq (
                   .region [] [
                     ⟨some 37, .fieldAddr 3 (.t 10), none⟩,
                     ⟨some 38, .fieldAddr 0 (.t 37), none⟩,
                     ⟨some 39, .load false 1 (.t 38), none⟩,
                     ⟨some 40, .bin .neq (.t 39) (.c (.int .i64 0)), none⟩,
                     ⟨some 36, .mv (.t 40), none⟩]) (
                   (.cond (.t 36) (
                    (.seq (
                     .region [] [
                       ⟨some 42, .fieldAddr 3 (.t 10), none⟩,
                       ⟨some 43, .fieldAddr 0 (.t 42), none⟩,
                       ⟨some 44, .load false 1 (.t 43), none⟩,
                       ⟨some 45, .call 0 (.c (.fn 21 [])) [(.t 44)], none⟩,
                       ⟨some 41, .mv (.t 45), none⟩,
                       ⟨some 46, .ext (.t 41) 0, none⟩,
                       ⟨some 47, .ext (.t 41) 1, none⟩,
                       ⟨some 12, .mv (.t 46), none⟩]) (
                     .region [] [
                       ⟨some 48, .mv (.t 11), none⟩,
                       ⟨some 49, .mv (.t 12), none⟩,
                       ⟨some 50, .nilck (.t 48), none⟩,
                       ⟨none, .store 1 (.t 50) (.t 49), none⟩]))) (
                    (.seq (
                     .region [] [
                       ⟨some 52, .fieldAddr 5 (.t 10), none⟩,
                       ⟨some 53, .load false 1 (.t 52), none⟩,
                       ⟨some 51, .mv (.t 53), none⟩]) (
                     (.cond (.t 51) (
                      .region [] [
                        ⟨some 54, .fieldAddr 6 (.t 10), none⟩,
                        ⟨some 55, .load false 1 (.t 54), none⟩,
                        ⟨some 12, .mv (.t 55), none⟩]) (
                      .skip))))))))))) (
                 .region [] [
                   ⟨some 56, .mv (.t 8), none⟩,
                   ⟨some 57, .mv (.t 12), none⟩,
                   ⟨some 58, .lit 1 [(.int .i64 0)] 1 [(0, 1, (.t 57))], none⟩,
                   ⟨some 59, .app 3 1 8 (.t 56) (.t 58), none⟩,
                   ⟨some 8, .mv (.t 59), none⟩]))))))))))) (
            .region [] [
              ⟨some 60, .bin .add (.t 23) (.c (.int .i64 1)), none⟩,
              ⟨some 23, .mv (.t 60), none⟩]))))))))))))) (
      (.seq (
       .region [] [
         ⟨some 61, .mv (.t 8), none⟩,
         ⟨some 4, .mv (.t 61), none⟩,
         ⟨some 5, .mv (.c (.int .i64 0)), none⟩]) (
       .ret))))))))))))⟩

def a24 : AFunc := ⟨[.tmp 4, .tmp 5],
 (.seq (
  .region [] [
    ⟨some 4, .mv (.c .nilsl), none⟩,
    ⟨some 5, .mv (.c (.int .i64 0)), none⟩]) (
  (.seq (
   (.seq (
    .region [] [
      ⟨some 12, .mv (.t 0), none⟩,
      ⟨some 13, .bin .lss (.t 12) (.c (.int .i64 (-7))), none⟩,
      ⟨some 14, .mv (.t 13), none⟩,
      ⟨some 15, .mv (.t 0), some (14, false)⟩,
      ⟨some 16, .bin .gtr (.t 15) (.c (.int .i64 7)), some (14, false)⟩,
      ⟨some 17, .pick (.t 14) (.c (.bool true)) (.t 16), none⟩]) (
    (.cond (.t 17) (
     (.seq (
      .region [] [
        ⟨some 4, .mv (.c .nilsl), none⟩,
        ⟨some 5, .mv (.c (.int .i64 2)), none⟩]) (
      .ret))) (
     .skip))))) (
   (.seq (
    (.seq (
     .region [] [
       ⟨some 18, .mv (.t 1), none⟩,
       ⟨some 19, .len (.t 18), none⟩,
       ⟨some 20, .bin .gtr (.t 19) (.c (.int .i64 2560)), none⟩]) (
     (.cond (.t 20) (
      (.seq (
       .region [] [
         ⟨some 4, .mv (.c .nilsl), none⟩,
         ⟨some 5, .mv (.c (.int .i64 9)), none⟩]) (
       .ret))) (
      .skip))))) (
    (.seq (
     .region [] [
       ⟨some 21, .mv (.t 0), none⟩,
       ⟨some 22, .callf 1 (.c (.fn 29 [])) [(.t 21)], none⟩,
       ⟨some 6, .mv (.t 22), none⟩]) (
     (.seq (
      .region [] [
        ⟨some 7, .mv (.c .nilsl), none⟩]) (
      (.seq (
       (.seq (
        .region [] [
          ⟨some 8, .mv (.c (.int .i64 0)), none⟩]) (
        (.block 0 (
         (.loop (
          (.seq (
           (.seq (
            .region [] [
              ⟨some 23, .mv (.t 8), none⟩,
              ⟨some 24, .mv (.t 1), none⟩,
              ⟨some 25, .len (.t 24), none⟩,
              ⟨some 26, .bin .lss (.t 23) (.t 25), none⟩]) (
            (.cond (.t 26) (
             .skip) (
             .exit 0))))) (
           (.seq (
            (.block 1 (
             (.seq (
              .region [] [
                ⟨some 29, .mv (.t 1), none⟩,
                ⟨some 30, .mv (.t 8), none⟩,
                ⟨some 31, .elemAddr 7 (.t 29) (.t 30), none⟩,
                ⟨some 32, .load true 7 (.t 31), none⟩,
                ⟨some 9, .alloc 2 [(.int .i64 0), (.int .i64 0), (.int .i64 0), (.int .i64 0), (.bool false), (.bool false), (.int .i64 0)], none⟩,
                ⟨none, .store 7 (.t 9) (.t 32), none⟩]) (
              (.seq (
               (.seq (
                .region [] [
                  ⟨some 33, .fieldAddr 0 (.t 9), none⟩,
                  ⟨some 34, .load false 1 (.t 33), none⟩,
                  ⟨some 35, .bin .lss (.t 34) (.c (.int .i64 0)), none⟩,
                  ⟨some 36, .mv (.t 35), none⟩,
                  ⟨some 37, .mv (.t 8), some (36, false)⟩,
                  ⟨some 38, .bin .gtr (.t 37) (.c (.int .i64 0)), some (36, false)⟩,
                  ⟨some 39, .mv (.t 38), some (36, false)⟩,
                  ⟨some 40, .fieldAddr 0 (.t 9), some (39, true)⟩,
                  ⟨some 41, .load false 1 (.t 40), some (39, true)⟩,
                  ⟨some 42, .mv (.t 1), some (39, true)⟩,
                  ⟨some 43, .mv (.t 8), some (39, true)⟩,
                  ⟨some 44, .bin .sub (.t 43) (.c (.int .i64 1)), some (39, true)⟩,
                  ⟨some 45, .elemAddr 7 (.t 42) (.t 44), some (39, true)⟩,
                  ⟨some 46, .fieldAddr 0 (.t 45), some (39, true)⟩,
                  ⟨some 47, .load false 1 (.t 46), some (39, true)⟩,
                  ⟨some 48, .bin .lss (.t 41) (.t 47), some (39, true)⟩,
                  ⟨some 49, .pick (.t 39) (.t 48) (.c (.bool false)), some (36, false)⟩,
                  ⟨some 50, .pick (.t 36) (.c (.bool true)) (.t 49), none⟩]) (
                (.cond (.t 50) (
                 (.seq (
                  .region [] [
                    ⟨some 4, .mv (.c .nilsl), none⟩,
                    ⟨some 5, .mv (.c (.int .i64 25)), none⟩]) (
                  .ret))) (
                 .skip))))) (
               (.seq (
                (.seq (
                 .region [] [
                   ⟨some 51, .fieldAddr 1 (.t 9), none⟩,
                   ⟨some 52, .load false 1 (.t 51), none⟩,
                   ⟨some 53, .bin .lss (.t 52) (.c (.int .i64 0)), none⟩,
                   ⟨some 54, .mv (.t 53), none⟩,
                   ⟨some 55, .fieldAddr 1 (.t 9), some (54, false)⟩,
                   ⟨some 56, .load false 1 (.t 55), some (54, false)⟩,
                   ⟨some 57, .bin .gtr (.t 56) (.c (.int .i64 6)), some (54, false)⟩,
                   ⟨some 58, .pick (.t 54) (.c (.bool true)) (.t 57), none⟩,
                   ⟨some 59, .mv (.t 58), none⟩,
                   ⟨some 60, .fieldAddr 2 (.t 9), some (59, false)⟩,
                   ⟨some 61, .load false 1 (.t 60), some (59, false)⟩,
                   ⟨some 62, .bin .lss (.t 61) (.c (.int .i64 (-1))), some (59, false)⟩,
                   ⟨some 63, .pick (.t 59) (.c (.bool true)) (.t 62), none⟩,
                   ⟨some 64, .mv (.t 63), none⟩,
                   ⟨some 65, .fieldAddr 2 (.t 9), some (64, false)⟩,
                   ⟨some 66, .load false 1 (.t 65), some (64, false)⟩,
                   ⟨some 67, .bin .gtr (.t 66) (.c (.int .i64 9)), some (64, false)⟩,
                   ⟨some 68, .pick (.t 64) (.c (.bool true)) (.t 67), none⟩]) (
                 (.cond (.t 68) (
                  (.seq (
                   .region [] [
                     ⟨some 4, .mv (.c .nilsl), none⟩,
                     ⟨some 5, .mv (.c (.int .i64 18)), none⟩]) (
                   .ret))) (
                  .skip))))) (
                (.seq (
                 (.seq (
                  .region [] [
                    ⟨some 69, .fieldAddr 3 (.t 9), none⟩,
                    ⟨some 70, .fieldAddr 0 (.t 69), none⟩,
                    ⟨some 71, .load false 1 (.t 70), none⟩,
                    ⟨some 72, .bin .lss (.t 71) (.c (.int .i64 0)), none⟩,
                    ⟨some 73, .mv (.t 72), none⟩,
                    ⟨some 74, .fieldAddr 3 (.t 9), some (73, false)⟩,
                    ⟨some 75, .fieldAddr 0 (.t 74), some (73, false)⟩,
                    ⟨some 76, .load false 1 (.t 75), some (73, false)⟩,
                    ⟨some 77, .bin .gtr (.t 76) (.c (.int .i64 5)), some (73, false)⟩,
                    ⟨some 78, .pick (.t 73) (.c (.bool true)) (.t 77), none⟩]) (
                  (.cond (.t 78) (
                   (.seq (
                    .region [] [
                      ⟨some 4, .mv (.c .nilsl), none⟩,
                      ⟨some 5, .mv (.c (.int .i64 11)), none⟩]) (
                    .ret))) (
                   .skip))))) (
                 (.seq (
                  (.seq (
                   .region [] [
                     ⟨some 79, .fieldAddr 5 (.t 9), none⟩,
                     ⟨some 80, .load false 1 (.t 79), none⟩,
                     ⟨some 81, .mv (.t 80), none⟩,
                     ⟨some 82, .fieldAddr 6 (.t 9), some (81, true)⟩,
                     ⟨some 83, .load false 1 (.t 82), some (81, true)⟩,
                     ⟨some 84, .bin .lss (.t 83) (.c (.int .i64 (-2))), some (81, true)⟩,
                     ⟨some 85, .mv (.t 84), some (81, true)⟩,
                     ⟨some 86, .fieldAddr 6 (.t 9), some (85, false)⟩,
                     ⟨some 87, .load false 1 (.t 86), some (85, false)⟩,
                     ⟨some 88, .bin .gtr (.t 87) (.c (.int .i64 2)), some (85, false)⟩,
                     ⟨some 89, .pick (.t 85) (.c (.bool true)) (.t 88), some (81, true)⟩,
                     ⟨some 90, .pick (.t 81) (.t 89) (.c (.bool false)), none⟩]) (
                   (.cond (.t 90) (
                    (.seq (
                     .region [] [
                       ⟨some 4, .mv (.c .nilsl), none⟩,
                       ⟨some 5, .mv (.c (.int .i64 2)), none⟩]) (
                     .ret))) (
                    .skip))))) (
                  (.seq (
                   .region [] [
                     ⟨some 91, .fieldAddr 1 (.t 9), none⟩,
                     ⟨some 92, .load false 1 (.t 91), none⟩,
                     ⟨some 93, .fieldAddr 2 (.t 9), none⟩,
                     ⟨some 94, .load false 1 (.t 93), none⟩,
                     ⟨some 95, .callf 3 (.c (.fn 30 [])) [(.t 92), (.t 94)], none⟩,
                     ⟨some 10, .mv (.t 95), none⟩]) (
                   (.seq (
                    .region [] [
                      ⟨some 96, .mv (.t 6), none⟩,
                      ⟨some 97, .mv (.t 10), none⟩,
                      ⟨some 98, .elemAddr 1 (.t 96) (.t 97), none⟩,
                      ⟨some 99, .load false 1 (.t 98), none⟩,
                      ⟨some 11, .mv (.t 99), none⟩]) (
                    (.seq (
                     (.seq (
                      .region [] [
                        ⟨some 100, .fieldAddr 3 (.t 9), none⟩,
                        ⟨some 101, .fieldAddr 0 (.t 100), none⟩,
                        ⟨some 102, .load false 1 (.t 101), none⟩,
                        ⟨some 103, .bin .gtr (.t 102) (.c (.int .i64 0)), none⟩]) (
                      (.cond (.t 103) (
                       (.seq (
                        .region [] [
                          ⟨some 104, .fieldAddr 3 (.t 9), none⟩,
                          ⟨some 105, .fieldAddr 0 (.t 104), none⟩,
                          ⟨some 106, .load false 1 (.t 105), none⟩,
                          ⟨some 107, .bin .sub (.t 106) (.c (.int .i64 3)), none⟩,
                          ⟨some 11, .mv (.t 107), none⟩]) (
                        .region [] [
                          ⟨some 108, .mv (.t 6), none⟩,
                          ⟨some 109, .mv (.t 10), none⟩,
                          ⟨some 110, .mv (.t 11), none⟩,
                          ⟨some 111, .elemAddr 1 (.t 108) (.t 109), none⟩,
                          ⟨none, .store 1 (.t 111) (.t 110), none⟩]))) (
                       (.seq (
                        .region [] [
                          ⟨some 112, .fieldAddr 5 (.t 9), none⟩,
                          ⟨some 113, .load false 1 (.t 112), none⟩]) (
                        (.cond (.t 113) (
                         .region [] [
                           ⟨some 114, .fieldAddr 6 (.t 9), none⟩,
                           ⟨some 115, .load false 1 (.t 114), none⟩,
                           ⟨some 11, .mv (.t 115), none⟩]) (
                         .skip))))))))) (
                     .region [] [
                       ⟨some 116, .mv (.t 7), none⟩,
                       ⟨some 117, .mv (.t 11), none⟩,
                       ⟨some 118, .lit 1 [(.int .i64 0)] 1 [(0, 1, (.t 117))], none⟩,
                       ⟨some 119, .app 4 1 8 (.t 116) (.t 118), none⟩,
                       ⟨some 7, .mv (.t 119), none⟩]))))))))))))))))))) (
            .region [] [
              ⟨some 27, .mv (.t 8), none⟩,
              ⟨some 28, .bin .add (.t 27) (.c (.int .i64 1)), none⟩,
              ⟨some 8, .mv (.t 28), none⟩]))))))))))) (
       (.seq (
        .region [] [
          ⟨some 120, .mv (.t 7), none⟩,
          ⟨some 4, .mv (.t 120), none⟩,
          ⟨some 5, .mv (.c (.int .i64 0)), none⟩]) (
        .ret))))))))))))))⟩

def a25 : AFunc := ⟨[.tmp 4],
 (.seq (
  .region [] [
    ⟨some 4, .mv (.c .nilsl), none⟩]) (
  (.seq (
   .region [] [
     ⟨some 5, .mv (.c .nilsl), none⟩]) (
   (.seq (
    (.seq (
     .region [] [
       ⟨some 6, .mv (.c (.int .i64 0)), none⟩]) (
     (.block 0 (
      (.loop (
       (.seq (
        (.seq (
         .region [] [
           ⟨some 8, .mv (.t 6), none⟩,
           ⟨some 9, .mv (.t 0), none⟩,
           ⟨some 10, .len (.t 9), none⟩,
           ⟨some 11, .bin .lss (.t 8) (.t 10), none⟩,
           ⟨some 12, .mv (.t 11), none⟩,
           ⟨some 13, .mv (.t 6), some (12, true)⟩,
           ⟨some 14, .mv (.t 1), some (12, true)⟩,
           ⟨some 15, .len (.t 14), some (12, true)⟩,
           ⟨some 16, .bin .lss (.t 13) (.t 15), some (12, true)⟩,
           ⟨some 17, .pick (.t 12) (.t 16) (.c (.bool false)), none⟩]) (
         (.cond (.t 17) (
          .skip) (
          .exit 0))))) (
        (.seq (
         (.block 1 (
          (.seq (
           .region [1] [
             ⟨some 20, .mv (.t 0), none⟩,
             ⟨some 21, .mv (.t 6), none⟩,
             ⟨some 22, .elemAddr 6 (.t 20) (.t 21), none⟩,
             ⟨some 23, .fieldAddr 0 (.t 22), none⟩,
             ⟨some 24, .load false 1 (.t 23), none⟩,
             ⟨some 25, .mv (.t 0), none⟩,
             ⟨some 26, .mv (.t 6), none⟩,
             ⟨some 27, .elemAddr 6 (.t 25) (.t 26), none⟩,
             ⟨some 28, .fieldAddr 1 (.t 27), none⟩,
             ⟨some 29, .fieldAddr 0 (.t 28), none⟩,
             ⟨some 30, .load false 1 (.t 29), none⟩,
             ⟨some 31, .mv (.t 0), none⟩,
             ⟨some 32, .mv (.t 6), none⟩,
             ⟨some 33, .elemAddr 6 (.t 31) (.t 32), none⟩,
             ⟨some 34, .fieldAddr 1 (.t 33), none⟩,
             ⟨some 35, .fieldAddr 2 (.t 34), none⟩,
             ⟨some 36, .load false 1 (.t 35), none⟩,
             ⟨some 37, .mv (.t 1), none⟩,
             ⟨some 38, .mv (.t 6), none⟩,
             ⟨some 39, .elemAddr 2 (.t 37) (.t 38), none⟩,
             ⟨some 40, .load true 2 (.t 39), none⟩,
             ⟨some 41, .mv (.t 0), none⟩,
             ⟨some 42, .mv (.t 6), none⟩,
             ⟨some 43, .elemAddr 6 (.t 41) (.t 42), none⟩,
             ⟨some 44, .fieldAddr 4 (.t 43), none⟩,
             ⟨some 45, .load false 1 (.t 44), none⟩,
             ⟨some 46, .build [(.int .i64 0), (.int .i64 0), (.int .i64 0), (.int .i64 0), (.bool false), (.bool false), (.int .i64 0)] [(0, 1, (.t 24)), (1, 1, (.t 30)), (2, 1, (.t 36)), (3, 2, (.t 40)), (5, 1, (.t 45))], none⟩,
             ⟨some 7, .alloc 1 [(.int .i64 0), (.int .i64 0), (.int .i64 0), (.int .i64 0), (.bool false), (.bool false), (.int .i64 0)], none⟩,
             ⟨none, .store 7 (.t 7) (.t 46), none⟩]) (
           (.seq (
            (.seq (
             .region [] [
               ⟨some 47, .fieldAddr 5 (.t 7), none⟩,
               ⟨some 48, .load false 1 (.t 47), none⟩]) (
             (.cond (.t 48) (
              .region [] [
                ⟨some 49, .mv (.t 0), none⟩,
                ⟨some 50, .mv (.t 6), none⟩,
                ⟨some 51, .elemAddr 6 (.t 49) (.t 50), none⟩,
                ⟨some 52, .fieldAddr 1 (.t 51), none⟩,
                ⟨some 53, .fieldAddr 1 (.t 52), none⟩,
                ⟨some 54, .load false 1 (.t 53), none⟩,
                ⟨some 55, .fieldAddr 6 (.t 7), none⟩,
                ⟨none, .store 1 (.t 55) (.t 54), none⟩]) (
              .skip))))) (
            .region [] [
              ⟨some 56, .mv (.t 5), none⟩,
              ⟨some 57, .load true 7 (.t 7), none⟩,
              ⟨some 58, .lit 7 [(.int .i64 0), (.int .i64 0), (.int .i64 0), (.int .i64 0), (.bool false), (.bool false), (.int .i64 0)] 1 [(0, 7, (.t 57))], none⟩,
              ⟨some 59, .app 2 7 56 (.t 56) (.t 58), none⟩,
              ⟨some 5, .mv (.t 59), none⟩]))))))) (
         .region [] [
           ⟨some 18, .mv (.t 6), none⟩,
           ⟨some 19, .bin .add (.t 18) (.c (.int .i64 1)), none⟩,
           ⟨some 6, .mv (.t 19), none⟩]))))))))))) (
    (.seq (
     .region [] [
       ⟨some 60, .mv (.t 5), none⟩,
       ⟨some 4, .mv (.t 60), none⟩]) (
     .ret))))))))⟩

def a26 : AFunc := ⟨[.tmp 4],
 (.seq (
  .region [] [
    ⟨some 4, .mv (.c (.bool false)), none⟩]) (
  (.seq (
   (.seq (
    .region [] [
      ⟨some 5, .mv (.c (.int .i64 0)), none⟩]) (
    (.block 0 (
     (.loop (
      (.seq (
       (.seq (
        .region [] [
          ⟨some 6, .mv (.t 5), none⟩,
          ⟨some 7, .mv (.t 0), none⟩,
          ⟨some 8, .len (.t 7), none⟩,
          ⟨some 9, .bin .lss (.t 6) (.t 8), none⟩]) (
        (.cond (.t 9) (
         .skip) (
         .exit 0))))) (
       (.seq (
        (.block 1 (
         (.seq (
          .region [] [
            ⟨some 12, .mv (.t 0), none⟩,
            ⟨some 13, .mv (.t 5), none⟩,
            ⟨some 14, .elemAddr 6 (.t 12) (.t 13), none⟩,
            ⟨some 15, .fieldAddr 0 (.t 14), none⟩,
            ⟨some 16, .load false 1 (.t 15), none⟩,
            ⟨some 17, .mv (.t 0), none⟩,
            ⟨some 18, .mv (.t 1), none⟩,
            ⟨some 19, .elemAddr 6 (.t 17) (.t 18), none⟩,
            ⟨some 20, .fieldAddr 0 (.t 19), none⟩,
            ⟨some 21, .load false 1 (.t 20), none⟩,
            ⟨some 22, .bin .eql (.t 16) (.t 21), none⟩,
            ⟨some 23, .mv (.t 22), none⟩,
            ⟨some 24, .mv (.t 0), some (23, true)⟩,
            ⟨some 25, .mv (.t 5), some (23, true)⟩,
            ⟨some 26, .elemAddr 6 (.t 24) (.t 25), some (23, true)⟩,
            ⟨some 27, .fieldAddr 1 (.t 26), some (23, true)⟩,
            ⟨some 28, .fieldAddr 0 (.t 27), some (23, true)⟩,
            ⟨some 29, .load false 1 (.t 28), some (23, true)⟩,
            ⟨some 30, .mv (.t 0), some (23, true)⟩,
            ⟨some 31, .mv (.t 1), some (23, true)⟩,
            ⟨some 32, .elemAddr 6 (.t 30) (.t 31), some (23, true)⟩,
            ⟨some 33, .fieldAddr 1 (.t 32), some (23, true)⟩,
            ⟨some 34, .fieldAddr 0 (.t 33), some (23, true)⟩,
            ⟨some 35, .load false 1 (.t 34), some (23, true)⟩,
            ⟨some 36, .bin .eql (.t 29) (.t 35), some (23, true)⟩,
            ⟨some 37, .pick (.t 23) (.t 36) (.c (.bool false)), none⟩,
            ⟨some 38, .mv (.t 37), none⟩,
            ⟨some 39, .mv (.t 0), some (38, true)⟩,
            ⟨some 40, .mv (.t 5), some (38, true)⟩,
            ⟨some 41, .elemAddr 6 (.t 39) (.t 40), some (38, true)⟩,
            ⟨some 42, .fieldAddr 1 (.t 41), some (38, true)⟩,
            ⟨some 43, .fieldAddr 2 (.t 42), some (38, true)⟩,
            ⟨some 44, .load false 1 (.t 43), some (38, true)⟩,
            ⟨some 45, .mv (.t 0), some (38, true)⟩,
            ⟨some 46, .mv (.t 1), some (38, true)⟩,
            ⟨some 47, .elemAddr 6 (.t 45) (.t 46), some (38, true)⟩,
            ⟨some 48, .fieldAddr 1 (.t 47), some (38, true)⟩,
            ⟨some 49, .fieldAddr 2 (.t 48), some (38, true)⟩,
            ⟨some 50, .load false 1 (.t 49), some (38, true)⟩,
            ⟨some 51, .bin .eql (.t 44) (.t 50), some (38, true)⟩,
            ⟨some 52, .pick (.t 38) (.t 51) (.c (.bool false)), none⟩,
            ⟨some 53, .mv (.t 52), none⟩,
            ⟨some 54, .mv (.t 0), some (53, true)⟩,
            ⟨some 55, .mv (.t 5), some (53, true)⟩,
            ⟨some 56, .elemAddr 6 (.t 54) (.t 55), some (53, true)⟩,
            ⟨some 57, .fieldAddr 1 (.t 56), some (53, true)⟩,
            ⟨some 58, .fieldAddr 1 (.t 57), some (53, true)⟩,
            ⟨some 59, .load false 1 (.t 58), some (53, true)⟩,
            ⟨some 60, .mv (.t 0), some (53, true)⟩,
            ⟨some 61, .mv (.t 1), some (53, true)⟩,
            ⟨some 62, .elemAddr 6 (.t 60) (.t 61), some (53, true)⟩,
            ⟨some 63, .fieldAddr 1 (.t 62), some (53, true)⟩,
            ⟨some 64, .fieldAddr 1 (.t 63), some (53, true)⟩,
            ⟨some 65, .load false 1 (.t 64), some (53, true)⟩,
            ⟨some 66, .bin .neq (.t 59) (.t 65), some (53, true)⟩,
            ⟨some 67, .pick (.t 53) (.t 66) (.c (.bool false)), none⟩]) (
          (.cond (.t 67) (
           (.seq (
            .region [] [
              ⟨some 4, .mv (.c (.bool true)), none⟩]) (
            .ret))) (
           .skip))))))) (
        .region [] [
          ⟨some 10, .mv (.t 5), none⟩,
          ⟨some 11, .bin .add (.t 10) (.c (.int .i64 1)), none⟩,
          ⟨some 5, .mv (.t 11), none⟩]))))))))))) (
   (.seq (
    .region [] [
      ⟨some 4, .mv (.c (.bool false)), none⟩]) (
    .ret))))))⟩

def a27 : AFunc := ⟨[.tmp 4],
 (.seq (
  .region [] [
    ⟨some 4, .mv (.c (.int .i64 0)), none⟩]) (
  (.seq (
   (.seq (
    .region [] [
      ⟨some 10, .mv (.t 0), none⟩,
      ⟨some 11, .mv (.t 1), none⟩,
      ⟨some 12, .len (.t 11), none⟩,
      ⟨some 13, .call 0 (.c (.fn 35 [])) [(.t 10), (.t 12)], none⟩,
      ⟨some 5, .mv (.t 13), none⟩]) (
    (.seq (
     .region [] [
       ⟨some 14, .mv (.t 5), none⟩,
       ⟨some 15, .bin .neq (.t 14) (.c (.int .i64 0)), none⟩]) (
     (.cond (.t 15) (
      (.seq (
       .region [] [
         ⟨some 16, .mv (.t 5), none⟩,
         ⟨some 4, .mv (.t 16), none⟩]) (
       .ret))) (
      .skip))))))) (
   (.seq (
    .region [] [
      ⟨some 6, .mv (.c (.int .i64 0)), none⟩]) (
    (.seq (
     (.seq (
      .region [] [
        ⟨some 17, .mv (.t 1), none⟩,
        ⟨some 18, .len (.t 17), none⟩,
        ⟨some 19, .mv (.c (.int .i64 0)), none⟩]) (
      (.block 0 (
       (.loop (
        (.seq (
         .region [] [
           ⟨some 20, .bin .lss (.t 19) (.t 18), none⟩]) (
         (.seq (
          (.cond (.t 20) (
           .skip) (
           .exit 0))) (
          (.seq (
           (.block 1 (
            (.seq (
             .region [] [
               ⟨some 21, .elemAddr 6 (.t 17) (.t 19), none⟩,
               ⟨some 22, .load true 6 (.t 21), none⟩,
               ⟨some 8, .alloc 1 [(.int .i64 0), (.int .i64 0), (.int .i64 0), (.int .i64 0), (.bool false), (.int .i64 0)], none⟩,
               ⟨none, .store 6 (.t 8) (.t 22), none⟩]) (
             (.seq (
              .region [] [
                ⟨some 23, .fieldAddr 1 (.t 8), none⟩,
                ⟨some 24, .load true 3 (.t 23), none⟩,
                ⟨some 9, .alloc 2 [(.int .i64 0), (.int .i64 0), (.int .i64 0)], none⟩,
                ⟨none, .store 3 (.t 9) (.t 24), none⟩]) (
              (.seq (
               (.block 2 (
                (.seq (
                 .region [] [
                   ⟨some 26, .fieldAddr 0 (.t 8), none⟩,
                   ⟨some 27, .load false 1 (.t 26), none⟩,
                   ⟨some 28, .mv (.t 6), none⟩,
                   ⟨some 29, .bin .lss (.t 27) (.t 28), none⟩,
                   ⟨some 25, .mv (.t 29), none⟩]) (
                 (.cond (.t 25) (
                  (.seq (
                   .region [] [
                     ⟨some 4, .mv (.c (.int .i64 25)), none⟩]) (
                   .ret))) (
                  (.seq (
                   .region [] [
                     ⟨some 31, .fieldAddr 0 (.t 9), none⟩,
                     ⟨some 32, .load false 1 (.t 31), none⟩,
                     ⟨some 33, .call 0 (.c (.fn 31 [])) [(.t 32), (.c (.int .i64 0)), (.c (.int .i64 6))], none⟩,
                     ⟨some 34, .not (.t 33), none⟩,
                     ⟨some 35, .mv (.t 34), none⟩,
                     ⟨some 36, .fieldAddr 1 (.t 9), some (35, false)⟩,
                     ⟨some 37, .load false 1 (.t 36), some (35, false)⟩,
                     ⟨some 38, .call 0 (.c (.fn 31 [])) [(.t 37), (.c (.int .i64 (-2))), (.c (.int .i64 2))], some (35, false)⟩,
                     ⟨some 39, .not (.t 38), some (35, false)⟩,
                     ⟨some 40, .pick (.t 35) (.c (.bool true)) (.t 39), none⟩,
                     ⟨some 41, .mv (.t 40), none⟩,
                     ⟨some 42, .fieldAddr 2 (.t 9), some (41, false)⟩,
                     ⟨some 43, .load false 1 (.t 42), some (41, false)⟩,
                     ⟨some 44, .call 0 (.c (.fn 31 [])) [(.t 43), (.c (.int .i64 (-1))), (.c (.int .i64 9))], some (41, false)⟩,
                     ⟨some 45, .not (.t 44), some (41, false)⟩,
                     ⟨some 46, .pick (.t 41) (.c (.bool true)) (.t 45), none⟩,
                     ⟨some 30, .mv (.t 46), none⟩]) (
                   (.cond (.t 30) (
                    (.seq (
                     .region [] [
                       ⟨some 4, .mv (.c (.int .i64 18)), none⟩]) (
                     .ret))) (
                    (.seq (
                     .region [] [
                       ⟨some 48, .fieldAddr 5 (.t 8), none⟩,
                       ⟨some 49, .load false 1 (.t 48), none⟩,
                       ⟨some 50, .call 0 (.c (.fn 31 [])) [(.t 49), (.c (.int .i64 0)), (.c (.int .i64 2))], none⟩,
                       ⟨some 51, .not (.t 50), none⟩,
                       ⟨some 47, .mv (.t 51), none⟩]) (
                     (.cond (.t 47) (
                      (.seq (
                       .region [] [
                         ⟨some 4, .mv (.c (.int .i64 11)), none⟩]) (
                       .ret))) (
                      .skip))))))))))))))) (
               .region [] [
                 ⟨some 52, .fieldAddr 0 (.t 8), none⟩,
                 ⟨some 53, .load false 1 (.t 52), none⟩,
                 ⟨some 6, .mv (.t 53), none⟩]))))))))) (
           .region [] [
             ⟨some 54, .bin .add (.t 19) (.c (.int .i64 1)), none⟩,
             ⟨some 19, .mv (.t 54), none⟩]))))))))))))) (
     (.seq (
      .region [] [
        ⟨some 4, .mv (.c (.int .i64 0)), none⟩]) (
      .ret))))))))))⟩

def a28 : AFunc := ⟨[.tmp 4, .cell 5 true 77],
 (.seq (
  .region [] [
    ⟨some 4, .mv (.c .nilsl), none⟩,
    ⟨some 5, .alloc 1 [(.int .i64 0), (.int .i64 0), (.int .i64 0), (.int .i64 0), (.int .i64 0), (.int .i64 0), (.int .i64 0), (.int .i64 0), (.int .i64 0), (.int .i64 0), (.int .i64 0), (.int .i64 0), (.int .i64 0), (.int .i64 0), (.int .i64 0), (.int .i64 0), (.int .i64 0), (.int .i64 0), (.int .i64 0), (.int .i64 0), (.int .i64 0), (.int .i64 0), (.int .i64 0), (.int .i64 0), (.int .i64 0), (.int .i64 0), (.int .i64 0), (.int .i64 0), (.int .i64 0), (.int .i64 0), (.int .i64 0), (.int .i64 0), (.int .i64 0), (.int .i64 0), (.int .i64 0), (.int .i64 0), (.int .i64 0), (.int .i64 0), (.int .i64 0), (.int .i64 0), (.int .i64 0), (.int .i64 0), (.int .i64 0), (.int .i64 0), (.int .i64 0), (.int .i64 0), (.int .i64 0), (.int .i64 0), (.int .i64 0), (.int .i64 0), (.int .i64 0), (.int .i64 0), (.int .i64 0), (.int .i64 0), (.int .i64 0), (.int .i64 0), (.int .i64 0), (.int .i64 0), (.int .i64 0), (.int .i64 0), (.int .i64 0), (.int .i64 0), (.int .i64 0), (.int .i64 0), (.int .i64 0), (.int .i64 0), (.int .i64 0), (.int .i64 0), (.int .i64 0), (.int .i64 0), (.int .i64 0), (.int .i64 0), (.int .i64 0), (.int .i64 0), (.int .i64 0), (.int .i64 0), (.int .i64 0)], none⟩]) (
  (.seq (
   .region [] [
     ⟨some 17, .mv (.t 0), none⟩,
     ⟨some 18, .call 0 (.c (.fn 33 [])) [(.t 17)], none⟩,
     ⟨some 6, .alloc 2 [(.int .i64 0), (.int .i64 0), (.int .i64 0), (.int .i64 0), (.int .i64 0), (.int .i64 0), (.int .i64 0), (.int .i64 0), (.int .i64 0), (.int .i64 0), (.int .i64 0), (.int .i64 0), (.int .i64 0), (.int .i64 0), (.int .i64 0), (.int .i64 0), (.int .i64 0), (.int .i64 0), (.int .i64 0), (.int .i64 0), (.int .i64 0), (.int .i64 0), (.int .i64 0), (.int .i64 0), (.int .i64 0), (.int .i64 0), (.int .i64 0), (.int .i64 0), (.int .i64 0), (.int .i64 0), (.int .i64 0), (.int .i64 0), (.int .i64 0), (.int .i64 0), (.int .i64 0), (.int .i64 0), (.int .i64 0), (.int .i64 0), (.int .i64 0), (.int .i64 0), (.int .i64 0), (.int .i64 0), (.int .i64 0), (.int .i64 0), (.int .i64 0), (.int .i64 0), (.int .i64 0), (.int .i64 0), (.int .i64 0), (.int .i64 0), (.int .i64 0), (.int .i64 0), (.int .i64 0), (.int .i64 0), (.int .i64 0), (.int .i64 0), (.int .i64 0), (.int .i64 0), (.int .i64 0), (.int .i64 0), (.int .i64 0), (.int .i64 0), (.int .i64 0), (.int .i64 0), (.int .i64 0), (.int .i64 0), (.int .i64 0), (.int .i64 0), (.int .i64 0), (.int .i64 0), (.int .i64 0), (.int .i64 0), (.int .i64 0), (.int .i64 0), (.int .i64 0), (.int .i64 0), (.int .i64 0)], none⟩,
     ⟨none, .store 77 (.t 6) (.t 18), none⟩]) (
   (.seq (
    .region [] [
      ⟨some 19, .mv (.t 1), none⟩,
      ⟨some 20, .call 0 (.c (.fn 36 [])) [(.t 19)], none⟩,
      ⟨some 7, .mv (.t 20), none⟩]) (
    (.seq (
     .region [] [
       ⟨some 8, .mv (.c .nilsl), none⟩]) (
     (.seq (
      (.seq (
       .region [] [
         ⟨some 21, .mv (.t 1), none⟩,
         ⟨some 22, .len (.t 21), none⟩,
         ⟨some 23, .mv (.c (.int .i64 0)), none⟩]) (
       (.block 0 (
        (.loop (
         (.seq (
          .region [] [
            ⟨some 24, .bin .lss (.t 23) (.t 22), none⟩]) (
          (.seq (
           (.cond (.t 24) (
            .skip) (
            .exit 0))) (
           (.seq (
            (.block 1 (
             (.seq (
              .region [] [
                ⟨some 25, .mv (.t 23), none⟩,
                ⟨some 26, .elemAddr 6 (.t 21) (.t 23), none⟩,
                ⟨some 27, .load true 6 (.t 26), none⟩,
                ⟨some 10, .alloc 3 [(.int .i64 0), (.int .i64 0), (.int .i64 0), (.int .i64 0), (.bool false), (.int .i64 0)], none⟩,
                ⟨some 9, .mv (.t 25), none⟩,
                ⟨none, .store 6 (.t 10) (.t 27), none⟩]) (
              (.seq (
               .region [] [
                 ⟨some 28, .fieldAddr 1 (.t 10), none⟩,
                 ⟨some 29, .fieldAddr 0 (.t 28), none⟩,
                 ⟨some 30, .load false 1 (.t 29), none⟩,
                 ⟨some 31, .fieldAddr 1 (.t 10), none⟩,
                 ⟨some 32, .fieldAddr 2 (.t 31), none⟩,
                 ⟨some 33, .load false 1 (.t 32), none⟩,
                 ⟨some 34, .call 0 (.c (.fn 34 [])) [(.t 30), (.t 33)], none⟩,
                 ⟨some 35, .arrAddr 77 1 (.t 6) (.t 34), none⟩,
                 ⟨some 36, .fieldAddr 1 (.t 10), none⟩,
                 ⟨some 37, .fieldAddr 1 (.t 36), none⟩,
                 ⟨some 38, .load false 1 (.t 37), none⟩,
                 ⟨some 11, .mv (.t 35), none⟩,
                 ⟨some 12, .mv (.t 38), none⟩]) (
               (.seq (
                .region [] [
                  ⟨some 39, .fieldAddr 4 (.t 10), none⟩,
                  ⟨some 40, .load false 1 (.t 39), none⟩,
                  ⟨some 41, .not (.t 40), none⟩,
                  ⟨some 42, .mv (.t 41), none⟩,
                  ⟨some 43, .mv (.t 12), some (42, true)⟩,
                  ⟨some 44, .mv (.t 11), some (42, true)⟩,
                  ⟨some 45, .nilck (.t 44), some (42, true)⟩,
                  ⟨some 46, .load false 1 (.t 45), some (42, true)⟩,
                  ⟨some 47, .bin .neq (.t 43) (.t 46), some (42, true)⟩,
                  ⟨some 48, .pick (.t 42) (.t 47) (.c (.bool false)), none⟩,
                  ⟨some 49, .mv (.t 48), none⟩,
                  ⟨some 50, .mv (.t 7), some (49, false)⟩,
                  ⟨some 51, .mv (.t 9), some (49, false)⟩,
                  ⟨some 52, .elemAddr 1 (.t 50) (.t 51), some (49, false)⟩,
                  ⟨some 53, .load false 1 (.t 52), some (49, false)⟩,
                  ⟨some 54, .pick (.t 49) (.c (.bool true)) (.t 53), none⟩,
                  ⟨some 13, .mv (.t 54), none⟩]) (
                (.seq (
                 .region [] [
                   ⟨some 14, .alloc 4 [(.int .i64 0), (.bool false)], none⟩]) (
                 (.seq (
                  (.seq (
                   .region [] [
                     ⟨some 55, .mv (.t 13), none⟩,
                     ⟨some 56, .mv (.t 55), none⟩,
                     ⟨some 57, .fieldAddr 5 (.t 10), some (56, false)⟩,
                     ⟨some 58, .load false 1 (.t 57), some (56, false)⟩,
                     ⟨some 59, .bin .neq (.t 58) (.c (.int .i64 0)), some (56, false)⟩,
                     ⟨some 60, .pick (.t 56) (.c (.bool true)) (.t 59), none⟩]) (
                   (.cond (.t 60) (
                    (.seq (
                     .region [] [
                       ⟨some 62, .mv (.t 12), none⟩,
                       ⟨some 63, .call 0 (.c (.fn 20 [])) [(.t 62)], none⟩,
                       ⟨some 61, .mv (.t 63), none⟩,
                       ⟨some 64, .ext (.t 61) 0, none⟩,
                       ⟨some 65, .ext (.t 61) 1, none⟩,
                       ⟨some 15, .mv (.t 64), none⟩,
                       ⟨some 16, .mv (.t 65), none⟩]) (
                     (.seq (
                      .region [] [
                        ⟨some 66, .mv (.t 15), none⟩,
                        ⟨some 67, .mv (.t 13), none⟩,
                        ⟨some 68, .not (.t 67), none⟩,
                        ⟨some 69, .mv (.t 68), none⟩,
                        ⟨some 70, .fieldAddr 5 (.t 10), some (69, true)⟩,
                        ⟨some 71, .load false 1 (.t 70), some (69, true)⟩,
                        ⟨some 72, .bin .eql (.t 71) (.c (.int .i64 2)), some (69, true)⟩,
                        ⟨some 73, .pick (.t 69) (.t 72) (.c (.bool false)), none⟩,
                        ⟨some 74, .build [(.int .i64 0), (.bool false)] [(0, 1, (.t 66)), (1, 1, (.t 73))], none⟩,
                        ⟨none, .store 2 (.t 14) (.t 74), none⟩]) (
                      .region [] [
                        ⟨some 75, .mv (.t 11), none⟩,
                        ⟨some 76, .mv (.t 12), none⟩,
                        ⟨some 77, .nilck (.t 75), none⟩,
                        ⟨none, .store 1 (.t 77) (.t 76), none⟩]))))) (
                    .skip))))) (
                  .region [] [
                    ⟨some 78, .mv (.t 8), none⟩,
                    ⟨some 79, .load true 2 (.t 14), none⟩,
                    ⟨some 80, .lit 2 [(.int .i64 0), (.bool false)] 1 [(0, 2, (.t 79))], none⟩,
                    ⟨some 81, .app 5 2 16 (.t 78) (.t 80), none⟩,
                    ⟨some 8, .mv (.t 81), none⟩]))))))))))))) (
            .region [] [
              ⟨some 82, .bin .add (.t 23) (.c (.int .i64 1)), none⟩,
              ⟨some 23, .mv (.t 82), none⟩]))))))))))))) (
      (.seq (
       .region [] [
         ⟨some 83, .mv (.t 8), none⟩,
         ⟨some 84, .load true 77 (.t 6), none⟩,
         ⟨some 4, .mv (.t 83), none⟩,
         ⟨none, .store 77 (.t 5) (.t 84), none⟩]) (
       .ret))))))))))))⟩

def a29 : AFunc := ⟨[.tmp 2],
 (.seq (
  .region [] [
    ⟨some 2, .mv (.c .nilsl), none⟩]) (
  (.seq (
   .region [] [
     ⟨some 3, .mv (.c .nilsl), none⟩]) (
   (.seq (
    (.seq (
     .region [] [
       ⟨some 4, .mv (.c (.int .i64 0)), none⟩]) (
     (.block 0 (
      (.loop (
       (.seq (
        (.seq (
         .region [] [
           ⟨some 5, .mv (.t 4), none⟩,
           ⟨some 6, .bin .lss (.t 5) (.c (.int .i64 77)), none⟩]) (
         (.cond (.t 6) (
          .skip) (
          .exit 0))))) (
        (.seq (
         (.block 1 (
          .region [] [
            ⟨some 9, .mv (.t 3), none⟩,
            ⟨some 10, .mv (.t 0), none⟩,
            ⟨some 11, .mv (.t 4), none⟩,
            ⟨some 12, .bin .rem (.t 11) (.c (.int .i64 7)), none⟩,
            ⟨some 13, .call 0 (.c (.fn 19 [])) [(.t 10), (.t 12)], none⟩,
            ⟨some 14, .lit 1 [(.int .i64 0)] 1 [(0, 1, (.t 13))], none⟩,
            ⟨some 15, .app 1 1 8 (.t 9) (.t 14), none⟩,
            ⟨some 3, .mv (.t 15), none⟩]))) (
         .region [] [
           ⟨some 7, .mv (.t 4), none⟩,
           ⟨some 8, .bin .add (.t 7) (.c (.int .i64 1)), none⟩,
           ⟨some 4, .mv (.t 8), none⟩]))))))))))) (
    (.seq (
     .region [] [
       ⟨some 16, .mv (.t 3), none⟩,
       ⟨some 2, .mv (.t 16), none⟩]) (
     .ret))))))))⟩

def a30 : AFunc := ⟨[.tmp 4],
 (.seq (
  .region [] [
    ⟨some 4, .mv (.c (.int .i64 0)), none⟩]) (
  (.seq (
   .region [] [
     ⟨some 5, .mv (.t 1), none⟩,
     ⟨some 6, .bin .add (.t 5) (.c (.int .i64 1)), none⟩,
     ⟨some 7, .bin .mul (.c (.int .i64 7)) (.t 6), none⟩,
     ⟨some 8, .mv (.t 0), none⟩,
     ⟨some 9, .bin .add (.t 7) (.t 8), none⟩,
     ⟨some 4, .mv (.t 9), none⟩]) (
   .ret))))⟩

def a31 : AFunc := ⟨[.tmp 6],
 (.seq (
  .region [] [
    ⟨some 6, .mv (.c (.bool false)), none⟩]) (
  (.seq (
   .region [] [
     ⟨some 7, .mv (.t 0), none⟩,
     ⟨some 8, .mv (.t 1), none⟩,
     ⟨some 9, .bin .geq (.t 7) (.t 8), none⟩,
     ⟨some 10, .mv (.t 9), none⟩,
     ⟨some 11, .mv (.t 0), some (10, true)⟩,
     ⟨some 12, .mv (.t 2), some (10, true)⟩,
     ⟨some 13, .bin .leq (.t 11) (.t 12), some (10, true)⟩,
     ⟨some 14, .pick (.t 10) (.t 13) (.c (.bool false)), none⟩,
     ⟨some 6, .mv (.t 14), none⟩]) (
   .ret))))⟩

def a32 : AFunc := ⟨[.tmp 4],
 (.seq (
  .region [] [
    ⟨some 4, .mv (.c (.int .i64 0)), none⟩]) (
  (.seq (
   (.seq (
    .region [] [
      ⟨some 9, .mv (.t 0), none⟩,
      ⟨some 10, .mv (.t 1), none⟩,
      ⟨some 11, .len (.t 10), none⟩,
      ⟨some 12, .call 0 (.c (.fn 35 [])) [(.t 9), (.t 11)], none⟩,
      ⟨some 5, .mv (.t 12), none⟩]) (
    (.seq (
     .region [] [
       ⟨some 13, .mv (.t 5), none⟩,
       ⟨some 14, .bin .neq (.t 13) (.c (.int .i64 0)), none⟩]) (
     (.cond (.t 14) (
      (.seq (
       .region [] [
         ⟨some 15, .mv (.t 5), none⟩,
         ⟨some 4, .mv (.t 15), none⟩]) (
       .ret))) (
      .skip))))))) (
   (.seq (
    .region [] [
      ⟨some 6, .mv (.c (.int .i64 0)), none⟩]) (
    (.seq (
     (.seq (
      .region [] [
        ⟨some 16, .mv (.t 1), none⟩,
        ⟨some 17, .len (.t 16), none⟩,
        ⟨some 18, .mv (.c (.int .i64 0)), none⟩]) (
      (.block 0 (
       (.loop (
        (.seq (
         .region [] [
           ⟨some 19, .bin .lss (.t 18) (.t 17), none⟩]) (
         (.seq (
          (.cond (.t 19) (
           .skip) (
           .exit 0))) (
          (.seq (
           (.block 1 (
            (.seq (
             .region [] [
               ⟨some 20, .elemAddr 7 (.t 16) (.t 18), none⟩,
               ⟨some 21, .load true 7 (.t 20), none⟩,
               ⟨some 8, .alloc 1 [(.int .i64 0), (.int .i64 0), (.int .i64 0), (.int .i64 0), (.bool false), (.bool false), (.int .i64 0)], none⟩,
               ⟨none, .store 7 (.t 8) (.t 21), none⟩]) (
             (.seq (
              (.block 2 (
               (.seq (
                .region [] [
                  ⟨some 23, .fieldAddr 0 (.t 8), none⟩,
                  ⟨some 24, .load false 1 (.t 23), none⟩,
                  ⟨some 25, .mv (.t 6), none⟩,
                  ⟨some 26, .bin .lss (.t 24) (.t 25), none⟩,
                  ⟨some 22, .mv (.t 26), none⟩]) (
                (.cond (.t 22) (
                 (.seq (
                  .region [] [
                    ⟨some 4, .mv (.c (.int .i64 25)), none⟩]) (
                  .ret))) (
                 (.seq (
                  .region [] [
                    ⟨some 28, .fieldAddr 1 (.t 8), none⟩,
                    ⟨some 29, .load false 1 (.t 28), none⟩,
                    ⟨some 30, .call 0 (.c (.fn 31 [])) [(.t 29), (.c (.int .i64 0)), (.c (.int .i64 6))], none⟩,
                    ⟨some 31, .not (.t 30), none⟩,
                    ⟨some 32, .mv (.t 31), none⟩,
                    ⟨some 33, .fieldAddr 2 (.t 8), some (32, false)⟩,
                    ⟨some 34, .load false 1 (.t 33), some (32, false)⟩,
                    ⟨some 35, .call 0 (.c (.fn 31 [])) [(.t 34), (.c (.int .i64 (-1))), (.c (.int .i64 9))], some (32, false)⟩,
                    ⟨some 36, .not (.t 35), some (32, false)⟩,
                    ⟨some 37, .pick (.t 32) (.c (.bool true)) (.t 36), none⟩,
                    ⟨some 27, .mv (.t 37), none⟩]) (
                  (.cond (.t 27) (
                   (.seq (
                    .region [] [
                      ⟨some 4, .mv (.c (.int .i64 18)), none⟩]) (
                    .ret))) (
                   (.seq (
                    .region [] [
                      ⟨some 39, .fieldAddr 3 (.t 8), none⟩,
                      ⟨some 40, .fieldAddr 0 (.t 39), none⟩,
                      ⟨some 41, .load false 1 (.t 40), none⟩,
                      ⟨some 42, .call 0 (.c (.fn 31 [])) [(.t 41), (.c (.int .i64 0)), (.c (.int .i64 5))], none⟩,
                      ⟨some 43, .not (.t 42), none⟩,
                      ⟨some 38, .mv (.t 43), none⟩]) (
                    (.cond (.t 38) (
                     (.seq (
                      .region [] [
                        ⟨some 4, .mv (.c (.int .i64 11)), none⟩]) (
                      .ret))) (
                     (.seq (
                      .region [] [
                        ⟨some 45, .fieldAddr 5 (.t 8), none⟩,
                        ⟨some 46, .load false 1 (.t 45), none⟩,
                        ⟨some 47, .mv (.t 46), none⟩,
                        ⟨some 48, .fieldAddr 6 (.t 8), some (47, true)⟩,
                        ⟨some 49, .load false 1 (.t 48), some (47, true)⟩,
                        ⟨some 50, .call 0 (.c (.fn 31 [])) [(.t 49), (.c (.int .i64 (-2))), (.c (.int .i64 2))], some (47, true)⟩,
                        ⟨some 51, .not (.t 50), some (47, true)⟩,
                        ⟨some 52, .pick (.t 47) (.t 51) (.c (.bool false)), none⟩,
                        ⟨some 44, .mv (.t 52), none⟩]) (
                      (.cond (.t 44) (
                       (.seq (
                        .region [] [
                          ⟨some 4, .mv (.c (.int .i64 2)), none⟩]) (
                        .ret))) (
                       .skip))))))))))))))))))) (
              .region [] [
                ⟨some 53, .fieldAddr 0 (.t 8), none⟩,
                ⟨some 54, .load false 1 (.t 53), none⟩,
                ⟨some 6, .mv (.t 54), none⟩]))))))) (
           .region [] [
             ⟨some 55, .bin .add (.t 18) (.c (.int .i64 1)), none⟩,
             ⟨some 18, .mv (.t 55), none⟩]))))))))))))) (
     (.seq (
      .region [] [
        ⟨some 4, .mv (.c (.int .i64 0)), none⟩]) (
      .ret))))))))))⟩

def a33 : AFunc := ⟨[.cell 2 true 77],
 (.seq (
  .region [] [
    ⟨some 2, .alloc 1 [(.int .i64 0), (.int .i64 0), (.int .i64 0), (.int .i64 0), (.int .i64 0), (.int .i64 0), (.int .i64 0), (.int .i64 0), (.int .i64 0), (.int .i64 0), (.int .i64 0), (.int .i64 0), (.int .i64 0), (.int .i64 0), (.int .i64 0), (.int .i64 0), (.int .i64 0), (.int .i64 0), (.int .i64 0), (.int .i64 0), (.int .i64 0), (.int .i64 0), (.int .i64 0), (.int .i64 0), (.int .i64 0), (.int .i64 0), (.int .i64 0), (.int .i64 0), (.int .i64 0), (.int .i64 0), (.int .i64 0), (.int .i64 0), (.int .i64 0), (.int .i64 0), (.int .i64 0), (.int .i64 0), (.int .i64 0), (.int .i64 0), (.int .i64 0), (.int .i64 0), (.int .i64 0), (.int .i64 0), (.int .i64 0), (.int .i64 0), (.int .i64 0), (.int .i64 0), (.int .i64 0), (.int .i64 0), (.int .i64 0), (.int .i64 0), (.int .i64 0), (.int .i64 0), (.int .i64 0), (.int .i64 0), (.int .i64 0), (.int .i64 0), (.int .i64 0), (.int .i64 0), (.int .i64 0), (.int .i64 0), (.int .i64 0), (.int .i64 0), (.int .i64 0), (.int .i64 0), (.int .i64 0), (.int .i64 0), (.int .i64 0), (.int .i64 0), (.int .i64 0), (.int .i64 0), (.int .i64 0), (.int .i64 0), (.int .i64 0), (.int .i64 0), (.int .i64 0), (.int .i64 0), (.int .i64 0)], none⟩]) (
  (.seq (
   .region [] [
     ⟨some 3, .alloc 2 [(.int .i64 0), (.int .i64 0), (.int .i64 0), (.int .i64 0), (.int .i64 0), (.int .i64 0), (.int .i64 0), (.int .i64 0), (.int .i64 0), (.int .i64 0), (.int .i64 0), (.int .i64 0), (.int .i64 0), (.int .i64 0), (.int .i64 0), (.int .i64 0), (.int .i64 0), (.int .i64 0), (.int .i64 0), (.int .i64 0), (.int .i64 0), (.int .i64 0), (.int .i64 0), (.int .i64 0), (.int .i64 0), (.int .i64 0), (.int .i64 0), (.int .i64 0), (.int .i64 0), (.int .i64 0), (.int .i64 0), (.int .i64 0), (.int .i64 0), (.int .i64 0), (.int .i64 0), (.int .i64 0), (.int .i64 0), (.int .i64 0), (.int .i64 0), (.int .i64 0), (.int .i64 0), (.int .i64 0), (.int .i64 0), (.int .i64 0), (.int .i64 0), (.int .i64 0), (.int .i64 0), (.int .i64 0), (.int .i64 0), (.int .i64 0), (.int .i64 0), (.int .i64 0), (.int .i64 0), (.int .i64 0), (.int .i64 0), (.int .i64 0), (.int .i64 0), (.int .i64 0), (.int .i64 0), (.int .i64 0), (.int .i64 0), (.int .i64 0), (.int .i64 0), (.int .i64 0), (.int .i64 0), (.int .i64 0), (.int .i64 0), (.int .i64 0), (.int .i64 0), (.int .i64 0), (.int .i64 0), (.int .i64 0), (.int .i64 0), (.int .i64 0), (.int .i64 0), (.int .i64 0), (.int .i64 0)], none⟩]) (
   (.seq (
    (.seq (
     .region [] [
       ⟨some 5, .mv (.c (.int .i64 0)), none⟩]) (
     (.block 0 (
      (.loop (
       (.seq (
        .region [] [
          ⟨some 6, .bin .lss (.t 5) (.c (.int .i64 77)), none⟩]) (
        (.seq (
         (.cond (.t 6) (
          .skip) (
          .exit 0))) (
         (.seq (
          (.block 1 (
           (.seq (
            .region [] [
              ⟨some 7, .mv (.t 5), none⟩,
              ⟨some 4, .mv (.t 7), none⟩]) (
            .region [] [
              ⟨some 9, .mv (.t 4), none⟩,
              ⟨some 10, .mv (.t 0), none⟩,
              ⟨some 11, .mv (.t 4), none⟩,
              ⟨some 12, .bin .rem (.t 11) (.c (.int .i64 7)), none⟩,
              ⟨some 13, .call 0 (.c (.fn 37 [])) [(.t 10), (.t 12)], none⟩,
              ⟨some 8, .mv (.t 13), none⟩,
              ⟨some 14, .ext (.t 8) 0, none⟩,
              ⟨some 15, .ext (.t 8) 1, none⟩,
              ⟨some 16, .arrAddr 77 1 (.t 3) (.t 9), none⟩,
              ⟨none, .store 1 (.t 16) (.t 14), none⟩]))))) (
          .region [] [
            ⟨some 17, .bin .add (.t 5) (.c (.int .i64 1)), none⟩,
            ⟨some 5, .mv (.t 17), none⟩]))))))))))))) (
    (.seq (
     .region [] [
       ⟨some 18, .load true 77 (.t 3), none⟩,
       ⟨none, .store 77 (.t 2) (.t 18), none⟩]) (
     .ret))))))))⟩

def a34 : AFunc := ⟨[.tmp 4],
 (.seq (
  .region [] [
    ⟨some 4, .mv (.c (.int .i64 0)), none⟩]) (
  (.seq (
   .region [] [
     ⟨some 5, .mv (.t 1), none⟩,
     ⟨some 6, .bin .add (.t 5) (.c (.int .i64 1)), none⟩,
     ⟨some 7, .bin .mul (.c (.int .i64 7)) (.t 6), none⟩,
     ⟨some 8, .mv (.t 0), none⟩,
     ⟨some 9, .bin .add (.t 7) (.t 8), none⟩,
     ⟨some 4, .mv (.t 9), none⟩]) (
   .ret))))⟩

def a35 : AFunc := ⟨[.tmp 4],
 (.seq (
  .region [] [
    ⟨some 4, .mv (.c (.int .i64 0)), none⟩]) (
  (.seq (
   (.block 0 (
    (.seq (
     .region [] [
       ⟨some 6, .mv (.t 0), none⟩,
       ⟨some 7, .bin .lss (.t 6) (.c (.int .i64 (-7))), none⟩,
       ⟨some 8, .mv (.t 7), none⟩,
       ⟨some 9, .mv (.t 0), some (8, false)⟩,
       ⟨some 10, .bin .gtr (.t 9) (.c (.int .i64 7)), some (8, false)⟩,
       ⟨some 11, .pick (.t 8) (.c (.bool true)) (.t 10), none⟩,
       ⟨some 5, .mv (.t 11), none⟩]) (
     (.cond (.t 5) (
      (.seq (
       .region [] [
         ⟨some 4, .mv (.c (.int .i64 2)), none⟩]) (
       .ret))) (
      (.seq (
       .region [] [
         ⟨some 13, .mv (.t 1), none⟩,
         ⟨some 14, .bin .gtr (.t 13) (.c (.int .i64 2560)), none⟩,
         ⟨some 12, .mv (.t 14), none⟩]) (
       (.cond (.t 12) (
        (.seq (
         .region [] [
           ⟨some 4, .mv (.c (.int .i64 9)), none⟩]) (
         .ret))) (
        .skip))))))))))) (
   (.seq (
    .region [] [
      ⟨some 4, .mv (.c (.int .i64 0)), none⟩]) (
    .ret))))))⟩

def a36 : AFunc := ⟨[.tmp 2],
 (.seq (
  .region [] [
    ⟨some 2, .mv (.c .nilsl), none⟩]) (
  (.scope (
   (.seq (
    .region [] [
      ⟨some 10, .mv (.t 0), none⟩,
      ⟨some 11, .len (.t 10), none⟩,
      ⟨some 12, .mks 1 1 [(.bool false)] 1 (.t 11) (.t 11), none⟩,
      ⟨some 3, .mv (.t 12), none⟩]) (
    (.seq (
     .skip) (
     (.seq (
      (.seq (
       .region [] [
         ⟨some 13, .mv (.t 0), none⟩,
         ⟨some 14, .len (.t 13), none⟩,
         ⟨some 15, .mv (.c (.int .i64 0)), none⟩]) (
       (.block 0 (
        (.loop (
         (.seq (
          .region [] [
            ⟨some 16, .bin .lss (.t 15) (.t 14), none⟩]) (
          (.seq (
           (.cond (.t 16) (
            .skip) (
            .exit 0))) (
           (.seq (
            (.block 1 (
             (.seq (
              .region [] [
                ⟨some 17, .mv (.t 15), none⟩,
                ⟨some 18, .elemAddr 6 (.t 13) (.t 15), none⟩,
                ⟨some 19, .load true 6 (.t 18), none⟩,
                ⟨some 5, .alloc 2 [(.int .i64 0), (.int .i64 0), (.int .i64 0), (.int .i64 0), (.bool false), (.int .i64 0)], none⟩,
                ⟨some 4, .mv (.t 17), none⟩,
                ⟨none, .store 6 (.t 5) (.t 19), none⟩]) (
              (.seq (
               .region [] [
                 ⟨some 20, .lit 1 [(.int .i64 0)] 2 [(0, 1, (.c (.int .i64 (-1)))), (1, 1, (.c (.int .i64 1)))], none⟩,
                 ⟨some 21, .len (.t 20), none⟩,
                 ⟨some 22, .mv (.c (.int .i64 0)), none⟩]) (
               (.block 2 (
                (.loop (
                 (.seq (
                  .region [] [
                    ⟨some 23, .bin .lss (.t 22) (.t 21), none⟩]) (
                  (.seq (
                   (.cond (.t 23) (
                    .skip) (
                    .exit 2))) (
                   (.seq (
                    (.block 3 (
                     (.seq (
                      .region [] [
                        ⟨some 24, .elemAddr 1 (.t 20) (.t 22), none⟩,
                        ⟨some 25, .load false 1 (.t 24), none⟩,
                        ⟨some 7, .mv (.t 25), none⟩]) (
                      (.seq (
                       .region [] [
                         ⟨some 26, .mv (.t 4), none⟩,
                         ⟨some 27, .mv (.t 7), none⟩,
                         ⟨some 28, .bin .add (.t 26) (.t 27), none⟩,
                         ⟨some 8, .mv (.t 28), none⟩]) (
                       (.block 4 (
                        (.loop (
                         (.seq (
                          (.seq (
                           .region [] [
                             ⟨some 29, .mv (.t 8), none⟩,
                             ⟨some 30, .bin .geq (.t 29) (.c (.int .i64 0)), none⟩,
                             ⟨some 31, .mv (.t 30), none⟩,
                             ⟨some 32, .mv (.t 8), some (31, true)⟩,
                             ⟨some 33, .mv (.t 0), some (31, true)⟩,
                             ⟨some 34, .len (.t 33), some (31, true)⟩,
                             ⟨some 35, .bin .lss (.t 32) (.t 34), some (31, true)⟩,
                             ⟨some 36, .pick (.t 31) (.t 35) (.c (.bool false)), none⟩,
                             ⟨some 37, .mv (.t 36), none⟩,
                             ⟨some 38, .mv (.t 0), some (37, true)⟩,
                             ⟨some 39, .mv (.t 8), some (37, true)⟩,
                             ⟨some 40, .elemAddr 6 (.t 38) (.t 39), some (37, true)⟩,
                             ⟨some 41, .fieldAddr 0 (.t 40), some (37, true)⟩,
                             ⟨some 42, .load false 1 (.t 41), some (37, true)⟩,
                             ⟨some 43, .fieldAddr 0 (.t 5), some (37, true)⟩,
                             ⟨some 44, .load false 1 (.t 43), some (37, true)⟩,
                             ⟨some 45, .bin .eql (.t 42) (.t 44), some (37, true)⟩,
                             ⟨some 46, .pick (.t 37) (.t 45) (.c (.bool false)), none⟩]) (
                           (.cond (.t 46) (
                            .skip) (
                            .exit 4))))) (
                          (.seq (
                           (.block 5 (
                            (.seq (
                             .region [] [
                               ⟨some 50, .mv (.t 0), none⟩,
                               ⟨some 51, .mv (.t 8), none⟩,
                               ⟨some 52, .elemAddr 6 (.t 50) (.t 51), none⟩,
                               ⟨some 53, .fieldAddr 1 (.t 52), none⟩,
                               ⟨some 54, .load true 3 (.t 53), none⟩,
                               ⟨some 9, .alloc 3 [(.int .i64 0), (.int .i64 0), (.int .i64 0)], none⟩,
                               ⟨none, .store 3 (.t 9) (.t 54), none⟩]) (
                             (.seq (
                              .region [] [
                                ⟨some 55, .fieldAddr 0 (.t 9), none⟩,
                                ⟨some 56, .load false 1 (.t 55), none⟩,
                                ⟨some 57, .fieldAddr 1 (.t 5), none⟩,
                                ⟨some 58, .fieldAddr 0 (.t 57), none⟩,
                                ⟨some 59, .load false 1 (.t 58), none⟩,
                                ⟨some 60, .bin .eql (.t 56) (.t 59), none⟩,
                                ⟨some 61, .mv (.t 60), none⟩,
                                ⟨some 62, .fieldAddr 2 (.t 9), some (61, true)⟩,
                                ⟨some 63, .load false 1 (.t 62), some (61, true)⟩,
                                ⟨some 64, .fieldAddr 1 (.t 5), some (61, true)⟩,
                                ⟨some 65, .fieldAddr 2 (.t 64), some (61, true)⟩,
                                ⟨some 66, .load false 1 (.t 65), some (61, true)⟩,
                                ⟨some 67, .bin .eql (.t 63) (.t 66), some (61, true)⟩,
                                ⟨some 68, .pick (.t 61) (.t 67) (.c (.bool false)), none⟩,
                                ⟨some 69, .mv (.t 68), none⟩,
                                ⟨some 70, .fieldAddr 1 (.t 9), some (69, true)⟩,
                                ⟨some 71, .load false 1 (.t 70), some (69, true)⟩,
                                ⟨some 72, .fieldAddr 1 (.t 5), some (69, true)⟩,
                                ⟨some 73, .fieldAddr 1 (.t 72), some (69, true)⟩,
                                ⟨some 74, .load false 1 (.t 73), some (69, true)⟩,
                                ⟨some 75, .bin .neq (.t 71) (.t 74), some (69, true)⟩,
                                ⟨some 76, .pick (.t 69) (.t 75) (.c (.bool false)), none⟩]) (
                              (.cond (.t 76) (
                               (.seq (
                                .region [] [
                                  ⟨some 77, .mv (.t 3), none⟩,
                                  ⟨some 78, .mv (.t 4), none⟩,
                                  ⟨some 79, .elemAddr 1 (.t 77) (.t 78), none⟩,
                                  ⟨none, .store 1 (.t 79) (.c (.bool true)), none⟩]) (
                                .exit 1))) (
                               .skip))))))))) (
                           .region [] [
                             ⟨some 47, .mv (.t 8), none⟩,
                             ⟨some 48, .mv (.t 7), none⟩,
                             ⟨some 49, .bin .add (.t 47) (.t 48), none⟩,
                             ⟨some 8, .mv (.t 49), none⟩]))))))))))))))) (
                    .region [] [
                      ⟨some 80, .bin .add (.t 22) (.c (.int .i64 1)), none⟩,
                      ⟨some 22, .mv (.t 80), none⟩]))))))))))))))))) (
            .region [] [
              ⟨some 81, .bin .add (.t 15) (.c (.int .i64 1)), none⟩,
              ⟨some 15, .mv (.t 81), none⟩]))))))))))))) (
      (.seq (
       .region [] [
         ⟨some 82, .mv (.t 3), none⟩,
         ⟨some 2, .mv (.t 82), none⟩]) (
       .ret))))))))))))⟩

def a37 : AFunc := ⟨[.tmp 4, .tmp 5],
 (.seq (
  .region [] [
    ⟨some 4, .mv (.c (.int .i64 0)), none⟩,
    ⟨some 5, .mv (.c (.int .i64 0)), none⟩]) (
  (.seq (
   (.seq (
    .region [] [
      ⟨some 7, .mv (.t 0), none⟩,
      ⟨some 8, .call 0 (.c (.fn 38 [])) [(.t 7)], none⟩,
      ⟨some 6, .mv (.t 8), none⟩]) (
    (.seq (
     .region [] [
       ⟨some 9, .mv (.t 6), none⟩,
       ⟨some 10, .bin .neq (.t 9) (.c (.int .i64 0)), none⟩]) (
     (.cond (.t 10) (
      (.seq (
       .region [] [
         ⟨some 11, .mv (.t 6), none⟩,
         ⟨some 4, .mv (.c (.int .i64 0)), none⟩,
         ⟨some 5, .mv (.t 11), none⟩]) (
       .ret))) (
      .skip))))))) (
   (.seq (
    (.seq (
     .region [] [
       ⟨some 12, .mv (.t 1), none⟩,
       ⟨some 13, .call 0 (.c (.fn 39 [])) [(.t 12)], none⟩,
       ⟨some 14, .not (.t 13), none⟩]) (
     (.cond (.t 14) (
      (.seq (
       .region [] [
         ⟨some 4, .mv (.c (.int .i64 0)), none⟩,
         ⟨some 5, .mv (.c (.int .i64 18)), none⟩]) (
       .ret))) (
      .skip))))) (
    (.seq (
     .region [] [
       ⟨some 15, .mv (.t 0), none⟩,
       ⟨some 16, .mv (.t 1), none⟩,
       ⟨some 17, .call 0 (.c (.fn 40 [])) [(.t 15), (.t 16)], none⟩,
       ⟨some 4, .mv (.t 17), none⟩,
       ⟨some 5, .mv (.c (.int .i64 0)), none⟩]) (
     .ret))))))))⟩

def a38 : AFunc := ⟨[.tmp 2],
 (.seq (
  .region [] [
    ⟨some 2, .mv (.c (.int .i64 0)), none⟩]) (
  (.seq (
   (.seq (
    .region [] [
      ⟨some 3, .mv (.t 0), none⟩,
      ⟨some 4, .bin .lss (.t 3) (.c (.int .i64 (-7))), none⟩,
      ⟨some 5, .mv (.t 4), none⟩,
      ⟨some 6, .mv (.t 0), some (5, false)⟩,
      ⟨some 7, .bin .gtr (.t 6) (.c (.int .i64 7)), some (5, false)⟩,
      ⟨some 8, .pick (.t 5) (.c (.bool true)) (.t 7), none⟩]) (
    (.cond (.t 8) (
     (.seq (
      .region [] [
        ⟨some 2, .mv (.c (.int .i64 2)), none⟩]) (
      .ret))) (
     .skip))))) (
   (.seq (
    .region [] [
      ⟨some 2, .mv (.c (.int .i64 0)), none⟩]) (
    .ret))))))⟩

def a39 : AFunc := ⟨[.tmp 2],
 (.seq (
  .region [] [
    ⟨some 2, .mv (.c (.bool false)), none⟩]) (
  (.seq (
   .region [] [
     ⟨some 3, .mv (.t 0), none⟩,
     ⟨some 4, .bin .geq (.t 3) (.c (.int .i64 0)), none⟩,
     ⟨some 5, .mv (.t 4), none⟩,
     ⟨some 6, .mv (.t 0), some (5, true)⟩,
     ⟨some 7, .bin .leq (.t 6) (.c (.int .i64 6)), some (5, true)⟩,
     ⟨some 8, .pick (.t 5) (.t 7) (.c (.bool false)), none⟩,
     ⟨some 2, .mv (.t 8), none⟩]) (
   .ret))))⟩

def a40 : AFunc := ⟨[.tmp 4],
 (.seq (
  .region [] [
    ⟨some 4, .mv (.c (.int .i64 0)), none⟩]) (
  (.seq (
   (.seq (
    .region [] [
      ⟨some 6, .mv (.t 1), none⟩,
      ⟨some 7, .call 0 (.c (.fn 41 [])) [(.t 6)], none⟩,
      ⟨some 8, .bin .add (.t 7) (.c (.int .i64 1)), none⟩,
      ⟨some 5, .mv (.t 8), none⟩]) (
    (.block 0 (
     (.seq (
      .region [] [
        ⟨some 10, .mv (.t 5), none⟩,
        ⟨some 11, .mv (.t 0), none⟩,
        ⟨some 12, .bin .lss (.t 10) (.t 11), none⟩,
        ⟨some 9, .mv (.t 12), none⟩]) (
      (.cond (.t 9) (
       (.seq (
        .region [] [
          ⟨some 4, .mv (.c (.int .i64 1)), none⟩]) (
        .ret))) (
       (.seq (
        .region [] [
          ⟨some 14, .mv (.t 5), none⟩,
          ⟨some 15, .bin .sub (.c (.int .i64 6)) (.t 14), none⟩,
          ⟨some 16, .mv (.t 0), none⟩,
          ⟨some 17, .neg (.t 16), none⟩,
          ⟨some 18, .bin .lss (.t 15) (.t 17), none⟩,
          ⟨some 13, .mv (.t 18), none⟩]) (
        (.cond (.t 13) (
         (.seq (
          .region [] [
            ⟨some 4, .mv (.c (.int .i64 (-1))), none⟩]) (
          .ret))) (
         .skip))))))))))))) (
   (.seq (
    .region [] [
      ⟨some 4, .mv (.c (.int .i64 0)), none⟩]) (
    .ret))))))⟩

def a41 : AFunc := ⟨[.tmp 2],
 (.seq (
  .region [] [
    ⟨some 2, .mv (.c (.int .i64 0)), none⟩]) (
  (.seq (
   (.seq (
    .region [] [
      ⟨some 5, .call 0 (.c (.fn 42 [])) [], none⟩,
      ⟨some 6, .mv (.c (.int .i64 0)), none⟩]) (
    (.block 0 (
     (.loop (
      (.seq (
       .region [] [
         ⟨some 7, .bin .lss (.t 6) (.c (.int .i64 7)), none⟩]) (
       (.seq (
        (.cond (.t 7) (
         .skip) (
         .exit 0))) (
        (.seq (
         (.block 1 (
          (.seq (
           .region [] [
             ⟨some 8, .mv (.t 6), none⟩,
             ⟨some 9, .idx 7 1 false (.t 5) (.t 6), none⟩,
             ⟨some 3, .mv (.t 8), none⟩,
             ⟨some 4, .mv (.t 9), none⟩]) (
           (.seq (
            .region [] [
              ⟨some 10, .mv (.t 4), none⟩,
              ⟨some 11, .mv (.t 0), none⟩,
              ⟨some 12, .bin .eql (.t 10) (.t 11), none⟩]) (
            (.cond (.t 12) (
             (.seq (
              .region [] [
                ⟨some 13, .mv (.t 3), none⟩,
                ⟨some 14, .bin .sub (.t 13) (.c (.int .i64 1)), none⟩,
                ⟨some 2, .mv (.t 14), none⟩]) (
              .ret))) (
             .skip))))))))) (
         .region [] [
           ⟨some 15, .bin .add (.t 6) (.c (.int .i64 1)), none⟩,
           ⟨some 6, .mv (.t 15), none⟩]))))))))))))) (
   (.seq (
    .region [] [
      ⟨some 2, .mv (.c (.int .i64 0)), none⟩]) (
    .ret))))))⟩

def a42 : AFunc := ⟨[.cell 0 true 7],
 (.seq (
  .region [] [
    ⟨some 0, .alloc 1 [(.int .i64 0), (.int .i64 0), (.int .i64 0), (.int .i64 0), (.int .i64 0), (.int .i64 0), (.int .i64 0)], none⟩]) (
  (.seq (
   .region [] [
     ⟨some 1, .build [(.int .i64 0), (.int .i64 0), (.int .i64 0), (.int .i64 0), (.int .i64 0), (.int .i64 0), (.int .i64 0)] [(0, 1, (.c (.int .i64 3))), (1, 1, (.c (.int .i64 0))), (2, 1, (.c (.int .i64 4))), (3, 1, (.c (.int .i64 1))), (4, 1, (.c (.int .i64 5))), (5, 1, (.c (.int .i64 2))), (6, 1, (.c (.int .i64 6)))], none⟩,
     ⟨none, .store 7 (.t 0) (.t 1), none⟩]) (
   .ret))))⟩


def tbl : Tbl := fun f =>
  match f with
  | 2 => some a2
  | 3 => some a3
  | 4 => some a4
  | 5 => some a5
  | 6 => some a6
  | 7 => some a7
  | 8 => some a8
  | 9 => some a9
  | 10 => some a10
  | 11 => some a11
  | 12 => some a12
  | 13 => some a13
  | 14 => some a14
  | 15 => some a15
  | 16 => some a16
  | 17 => some a17
  | 18 => some a18
  | 19 => some a19
  | 20 => some a20
  | 21 => some a21
  | 22 => some a22
  | 23 => some a23
  | 24 => some a24
  | 25 => some a25
  | 26 => some a26
  | 27 => some a27
  | 28 => some a28
  | 29 => some a29
  | 30 => some a30
  | 31 => some a31
  | 32 => some a32
  | 33 => some a33
  | 34 => some a34
  | 35 => some a35
  | 36 => some a36
  | 37 => some a37
  | 38 => some a38
  | 39 => some a39
  | 40 => some a40
  | 41 => some a41
  | 42 => some a42
  | _ => none

theorem ok2 : cFunc Try.prog 0 Try.f2 = some a2 := by kernel_rfl
theorem ok3 : cFunc Try.prog 0 Try.f3 = some a3 := by kernel_rfl
theorem ok4 : cFunc Try.prog 2 Try.f4 = some a4 := by kernel_rfl
theorem ok5 : cFunc Try.prog 0 Try.f5 = some a5 := by kernel_rfl
theorem ok6 : cFunc Try.prog 0 Try.f6 = some a6 := by kernel_rfl
theorem ok7 : cFunc Try.prog 0 Try.f7 = some a7 := by kernel_rfl
theorem ok8 : cFunc Try.prog 0 Try.f8 = some a8 := by kernel_rfl
theorem ok9 : cFunc Try.prog 2 Try.f9 = some a9 := by kernel_rfl
theorem ok10 : cFunc Try.prog 0 Try.f10 = some a10 := by kernel_rfl
theorem ok11 : cFunc Try.prog 1 Try.f11 = some a11 := by kernel_rfl
theorem ok12 : cFunc Try.prog 2 Try.f12 = some a12 := by kernel_rfl
theorem ok13 : cFunc Try.prog 0 Try.f13 = some a13 := by kernel_rfl
theorem ok14 : cFunc Try.prog 1 Try.f14 = some a14 := by kernel_rfl
theorem ok15 : cFunc Try.prog 0 Try.f15 = some a15 := by kernel_rfl
theorem ok16 : cFunc Try.prog 0 Try.f16 = some a16 := by kernel_rfl
theorem ok17 : cFunc Try.prog 1 Try.f17 = some a17 := by kernel_rfl
theorem ok18 : cFunc Try.prog 0 Try.f18 = some a18 := by kernel_rfl
theorem ok19 : cFunc Try.prog 0 Try.f19 = some a19 := by kernel_rfl
theorem ok20 : cFunc Try.prog 0 Try.f20 = some a20 := by kernel_rfl
theorem ok21 : cFunc Try.prog 0 Try.f21 = some a21 := by kernel_rfl
theorem ok22 : cFunc Try.prog 0 Try.f22 = some a22 := by kernel_rfl
theorem ok23 : cFunc Try.prog 0 Try.f23 = some a23 := by kernel_rfl
theorem ok24 : cFunc Try.prog 1 Try.f24 = some a24 := by kernel_rfl
theorem ok25 : cFunc Try.prog 0 Try.f25 = some a25 := by kernel_rfl
theorem ok26 : cFunc Try.prog 0 Try.f26 = some a26 := by kernel_rfl
theorem ok27 : cFunc Try.prog 0 Try.f27 = some a27 := by kernel_rfl
theorem ok28 : cFunc Try.prog 0 Try.f28 = some a28 := by kernel_rfl
theorem ok29 : cFunc Try.prog 0 Try.f29 = some a29 := by kernel_rfl
theorem ok30 : cFunc Try.prog 0 Try.f30 = some a30 := by kernel_rfl
theorem ok31 : cFunc Try.prog 0 Try.f31 = some a31 := by kernel_rfl
theorem ok32 : cFunc Try.prog 0 Try.f32 = some a32 := by kernel_rfl
theorem ok33 : cFunc Try.prog 0 Try.f33 = some a33 := by kernel_rfl
theorem ok34 : cFunc Try.prog 0 Try.f34 = some a34 := by kernel_rfl
theorem ok35 : cFunc Try.prog 0 Try.f35 = some a35 := by kernel_rfl
theorem ok36 : cFunc Try.prog 0 Try.f36 = some a36 := by kernel_rfl
theorem ok37 : cFunc Try.prog 0 Try.f37 = some a37 := by kernel_rfl
theorem ok38 : cFunc Try.prog 0 Try.f38 = some a38 := by kernel_rfl
theorem ok39 : cFunc Try.prog 0 Try.f39 = some a39 := by kernel_rfl
theorem ok40 : cFunc Try.prog 0 Try.f40 = some a40 := by kernel_rfl
theorem ok41 : cFunc Try.prog 0 Try.f41 = some a41 := by kernel_rfl
theorem ok42 : cFunc Try.prog 0 Try.f42 = some a42 := by kernel_rfl

theorem tbl_ok : TblOk Try.prog tbl := by
  intro f af h
  unfold tbl at h
  split at h
  · cases h; exact ⟨_, _, Try.func2, ok2⟩
  · cases h; exact ⟨_, _, Try.func3, ok3⟩
  · cases h; exact ⟨_, _, Try.func4, ok4⟩
  · cases h; exact ⟨_, _, Try.func5, ok5⟩
  · cases h; exact ⟨_, _, Try.func6, ok6⟩
  · cases h; exact ⟨_, _, Try.func7, ok7⟩
  · cases h; exact ⟨_, _, Try.func8, ok8⟩
  · cases h; exact ⟨_, _, Try.func9, ok9⟩
  · cases h; exact ⟨_, _, Try.func10, ok10⟩
  · cases h; exact ⟨_, _, Try.func11, ok11⟩
  · cases h; exact ⟨_, _, Try.func12, ok12⟩
  · cases h; exact ⟨_, _, Try.func13, ok13⟩
  · cases h; exact ⟨_, _, Try.func14, ok14⟩
  · cases h; exact ⟨_, _, Try.func15, ok15⟩
  · cases h; exact ⟨_, _, Try.func16, ok16⟩
  · cases h; exact ⟨_, _, Try.func17, ok17⟩
  · cases h; exact ⟨_, _, Try.func18, ok18⟩
  · cases h; exact ⟨_, _, Try.func19, ok19⟩
  · cases h; exact ⟨_, _, Try.func20, ok20⟩
  · cases h; exact ⟨_, _, Try.func21, ok21⟩
  · cases h; exact ⟨_, _, Try.func22, ok22⟩
  · cases h; exact ⟨_, _, Try.func23, ok23⟩
  · cases h; exact ⟨_, _, Try.func24, ok24⟩
  · cases h; exact ⟨_, _, Try.func25, ok25⟩
  · cases h; exact ⟨_, _, Try.func26, ok26⟩
  · cases h; exact ⟨_, _, Try.func27, ok27⟩
  · cases h; exact ⟨_, _, Try.func28, ok28⟩
  · cases h; exact ⟨_, _, Try.func29, ok29⟩
  · cases h; exact ⟨_, _, Try.func30, ok30⟩
  · cases h; exact ⟨_, _, Try.func31, ok31⟩
  · cases h; exact ⟨_, _, Try.func32, ok32⟩
  · cases h; exact ⟨_, _, Try.func33, ok33⟩
  · cases h; exact ⟨_, _, Try.func34, ok34⟩
  · cases h; exact ⟨_, _, Try.func35, ok35⟩
  · cases h; exact ⟨_, _, Try.func36, ok36⟩
  · cases h; exact ⟨_, _, Try.func37, ok37⟩
  · cases h; exact ⟨_, _, Try.func38, ok38⟩
  · cases h; exact ⟨_, _, Try.func39, ok39⟩
  · cases h; exact ⟨_, _, Try.func40, ok40⟩
  · cases h; exact ⟨_, _, Try.func41, ok41⟩
  · cases h; exact ⟨_, _, Try.func42, ok42⟩
  · cases h

theorem mixed : Try.prog.follows .mixedOrders = true := by kernel_rfl

theorem sound : SoundCall Try.prog (call tbl) := call_sound mixed tbl_ok

end Go.Proofs.Ythnjcaioeaepjaa
