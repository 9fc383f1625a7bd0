/-
  The translation's functions in the abstract machine's code, written by program; the kernel holds each against the translation.
-/
import Derived.Test.YtfngllcjikmbkaaChecked
import Derived.Test.YtfngllcjikmbkaaAbLim
namespace Go.Proofs.Ytfngllcjikmbkaa
open Go Go.Ab
set_option maxRecDepth 100000

def a2 : AFunc := ⟨[],
 .region [] [
   ⟨some 0, .call 0 (.c (.fn 1 [])) [], none⟩]⟩

def a3 : AFunc := ⟨[.tmp 2],
 (.seq (
  .region [] [
    ⟨some 1, .box 1 (.t 0), none⟩,
    ⟨some 2, .mv (.c (.bool false)), none⟩]) (
  (.seq (
   .region [] [
     ⟨some 3, .call 0 (.c (.fn 11 [])) [], none⟩,
     ⟨some 4, .mv (.t 3), none⟩,
     ⟨some 5, .load true 9 (.t 1), some (4, true)⟩,
     ⟨some 6, .call 0 (.c (.fn 13 [])) [(.t 5)], some (4, true)⟩,
     ⟨some 7, .call 0 (.c (.fn 12 [])) [(.t 6)], some (4, true)⟩,
     ⟨some 8, .load true 9 (.t 1), some (4, true)⟩,
     ⟨some 9, .call 0 (.c (.fn 14 [])) [(.t 8)], some (4, true)⟩,
     ⟨some 10, .bin .eql (.t 7) (.t 9), some (4, true)⟩,
     ⟨some 11, .pick (.t 4) (.t 10) (.c (.bool false)), none⟩,
     ⟨some 12, .mv (.t 11), none⟩,
     ⟨some 13, .fieldAddr 1 (.t 1), some (12, true)⟩,
     ⟨some 14, .load true 4 (.t 13), some (12, true)⟩,
     ⟨some 15, .call 0 (.c (.fn 16 [])) [(.t 14)], some (12, true)⟩,
     ⟨some 16, .fieldAddr 5 (.t 1), some (12, true)⟩,
     ⟨some 17, .load true 4 (.t 16), some (12, true)⟩,
     ⟨some 18, .call 0 (.c (.fn 16 [])) [(.t 17)], some (12, true)⟩,
     ⟨some 19, .call 0 (.c (.fn 15 [])) [(.t 15), (.t 18)], some (12, true)⟩,
     ⟨some 20, .fieldAddr 1 (.t 1), some (12, true)⟩,
     ⟨some 21, .load true 4 (.t 20), some (12, true)⟩,
     ⟨some 22, .fieldAddr 5 (.t 1), some (12, true)⟩,
     ⟨some 23, .load true 4 (.t 22), some (12, true)⟩,
     ⟨some 24, .call 0 (.c (.fn 17 [])) [(.t 21), (.t 23)], some (12, true)⟩,
     ⟨some 25, .bin .eql (.t 19) (.t 24), some (12, true)⟩,
     ⟨some 26, .pick (.t 12) (.t 25) (.c (.bool false)), none⟩,
     ⟨some 27, .mv (.t 26), none⟩,
     ⟨some 28, .fieldAddr 5 (.t 1), some (27, true)⟩,
     ⟨some 29, .load true 4 (.t 28), some (27, true)⟩,
     ⟨some 30, .call 0 (.c (.fn 16 [])) [(.t 29)], some (27, true)⟩,
     ⟨some 31, .fieldAddr 1 (.t 1), some (27, true)⟩,
     ⟨some 32, .load true 4 (.t 31), some (27, true)⟩,
     ⟨some 33, .call 0 (.c (.fn 16 [])) [(.t 32)], some (27, true)⟩,
     ⟨some 34, .call 0 (.c (.fn 15 [])) [(.t 30), (.t 33)], some (27, true)⟩,
     ⟨some 35, .fieldAddr 1 (.t 1), some (27, true)⟩,
     ⟨some 36, .load true 4 (.t 35), some (27, true)⟩,
     ⟨some 37, .fieldAddr 5 (.t 1), some (27, true)⟩,
     ⟨some 38, .load true 4 (.t 37), some (27, true)⟩,
     ⟨some 39, .call 0 (.c (.fn 17 [])) [(.t 36), (.t 38)], some (27, true)⟩,
     ⟨some 40, .neg (.t 39), some (27, true)⟩,
     ⟨some 41, .bin .eql (.t 34) (.t 40), some (27, true)⟩,
     ⟨some 42, .pick (.t 27) (.t 41) (.c (.bool false)), none⟩,
     ⟨some 2, .mv (.t 42), none⟩]) (
   .ret))))⟩

def a4 : AFunc := ⟨[.tmp 4],
 (.seq (
  .region [] [
    ⟨some 2, .box 1 (.t 0), none⟩,
    ⟨some 3, .box 2 (.t 1), none⟩,
    ⟨some 4, .mv (.c (.bool false)), none⟩]) (
  (.seq (
   .region [] [
     ⟨some 6, .load true 9 (.t 2), none⟩,
     ⟨some 7, .load true 9 (.t 3), none⟩,
     ⟨some 8, .call 0 (.c (.fn 18 [])) [(.t 6), (.t 7)], none⟩,
     ⟨some 5, .mv (.t 8), none⟩]) (
   (.seq (
    .region [] [
      ⟨some 9, .call 0 (.c (.fn 11 [])) [], none⟩,
      ⟨some 10, .mv (.t 9), none⟩,
      ⟨some 11, .load true 9 (.t 2), some (10, true)⟩,
      ⟨some 12, .call 0 (.c (.fn 13 [])) [(.t 11)], some (10, true)⟩,
      ⟨some 13, .load true 9 (.t 3), some (10, true)⟩,
      ⟨some 14, .call 0 (.c (.fn 13 [])) [(.t 13)], some (10, true)⟩,
      ⟨some 15, .call 0 (.c (.fn 19 [])) [(.t 12), (.t 14)], some (10, true)⟩,
      ⟨some 16, .mv (.t 5), some (10, true)⟩,
      ⟨some 17, .eqb false (.t 15) (.t 16), some (10, true)⟩,
      ⟨some 18, .pick (.t 10) (.t 17) (.c (.bool false)), none⟩,
      ⟨some 19, .mv (.t 18), none⟩,
      ⟨some 20, .load true 9 (.t 3), some (19, true)⟩,
      ⟨some 21, .call 0 (.c (.fn 13 [])) [(.t 20)], some (19, true)⟩,
      ⟨some 22, .load true 9 (.t 2), some (19, true)⟩,
      ⟨some 23, .call 0 (.c (.fn 13 [])) [(.t 22)], some (19, true)⟩,
      ⟨some 24, .call 0 (.c (.fn 19 [])) [(.t 21), (.t 23)], some (19, true)⟩,
      ⟨some 25, .mv (.t 5), some (19, true)⟩,
      ⟨some 26, .eqb false (.t 24) (.t 25), some (19, true)⟩,
      ⟨some 27, .pick (.t 19) (.t 26) (.c (.bool false)), none⟩,
      ⟨some 4, .mv (.t 27), none⟩]) (
    .ret))))))⟩

def a5 : AFunc := ⟨[.tmp 2],
 (.seq (
  .region [] [
    ⟨some 2, .mv (.c (.bool false)), none⟩]) (
  (.seq (
   (.seq (
    .region [] [
      ⟨some 7, .call 0 (.c (.fn 11 [])) [], none⟩,
      ⟨some 8, .not (.t 7), none⟩,
      ⟨some 9, .mv (.t 8), none⟩,
      ⟨some 10, .mv (.t 0), some (9, false)⟩,
      ⟨some 11, .len (.t 10), some (9, false)⟩,
      ⟨some 12, .bin .gtr (.t 11) (.c (.int .i64 20)), some (9, false)⟩,
      ⟨some 13, .pick (.t 9) (.c (.bool true)) (.t 12), none⟩]) (
    (.cond (.t 13) (
     (.seq (
      .region [] [
        ⟨some 14, .call 0 (.c (.fn 11 [])) [], none⟩,
        ⟨some 2, .mv (.t 14), none⟩]) (
      .ret))) (
     .skip))))) (
   (.seq (
    .region [] [
      ⟨some 16, .mv (.t 0), none⟩,
      ⟨some 17, .call 0 (.c (.fn 21 [])) [(.t 16)], none⟩,
      ⟨some 18, .call 0 (.c (.fn 20 [])) [(.t 17)], none⟩,
      ⟨some 15, .mv (.t 18), none⟩,
      ⟨some 19, .ext (.t 15) 0, none⟩,
      ⟨some 20, .ext (.t 15) 1, none⟩,
      ⟨some 3, .mv (.t 19), none⟩,
      ⟨some 4, .mv (.t 20), none⟩]) (
    (.seq (
     .region [] [
       ⟨some 22, .mv (.t 0), none⟩,
       ⟨some 23, .call 0 (.c (.fn 22 [])) [(.t 22)], none⟩,
       ⟨some 21, .mv (.t 23), none⟩,
       ⟨some 24, .ext (.t 21) 0, none⟩,
       ⟨some 25, .ext (.t 21) 1, none⟩,
       ⟨some 5, .mv (.t 24), none⟩,
       ⟨some 6, .mv (.t 25), none⟩]) (
     (.seq (
      .region [] [
        ⟨some 26, .mv (.t 3), none⟩,
        ⟨some 27, .mv (.t 5), none⟩,
        ⟨some 28, .bin .eql (.t 26) (.t 27), none⟩,
        ⟨some 29, .mv (.t 28), none⟩,
        ⟨some 30, .mv (.t 4), some (29, true)⟩,
        ⟨some 31, .mv (.t 6), some (29, true)⟩,
        ⟨some 32, .bin .eql (.t 30) (.t 31), some (29, true)⟩,
        ⟨some 33, .pick (.t 29) (.t 32) (.c (.bool false)), none⟩,
        ⟨some 2, .mv (.t 33), none⟩]) (
      .ret))))))))))⟩

def a6 : AFunc := ⟨[.tmp 4],
 (.seq (
  .region [] [
    ⟨some 4, .mv (.c (.bool false)), none⟩]) (
  (.seq (
   (.seq (
    .region [] [
      ⟨some 12, .call 0 (.c (.fn 11 [])) [], none⟩,
      ⟨some 13, .not (.t 12), none⟩,
      ⟨some 14, .mv (.t 13), none⟩,
      ⟨some 15, .mv (.t 0), some (14, false)⟩,
      ⟨some 16, .len (.t 15), some (14, false)⟩,
      ⟨some 17, .bin .gtr (.t 16) (.c (.int .i64 12)), some (14, false)⟩,
      ⟨some 18, .pick (.t 14) (.c (.bool true)) (.t 17), none⟩]) (
    (.cond (.t 18) (
     (.seq (
      .region [] [
        ⟨some 19, .call 0 (.c (.fn 11 [])) [], none⟩,
        ⟨some 4, .mv (.t 19), none⟩]) (
      .ret))) (
     .skip))))) (
   (.seq (
    .region [] [
      ⟨some 20, .mv (.t 0), none⟩,
      ⟨some 21, .call 0 (.c (.fn 21 [])) [(.t 20)], none⟩,
      ⟨some 5, .mv (.t 21), none⟩]) (
    (.seq (
     (.seq (
      .region [] [
        ⟨some 6, .mv (.c (.int .i64 0)), none⟩]) (
      (.block 0 (
       (.loop (
        (.seq (
         (.seq (
          .region [] [
            ⟨some 22, .mv (.t 6), none⟩,
            ⟨some 23, .mv (.t 5), none⟩,
            ⟨some 24, .len (.t 23), none⟩,
            ⟨some 25, .bin .lss (.t 22) (.t 24), none⟩,
            ⟨some 26, .mv (.t 25), none⟩,
            ⟨some 27, .mv (.t 6), some (26, true)⟩,
            ⟨some 28, .mv (.t 1), some (26, true)⟩,
            ⟨some 29, .len (.t 28), some (26, true)⟩,
            ⟨some 30, .bin .lss (.t 27) (.t 29), some (26, true)⟩,
            ⟨some 31, .pick (.t 26) (.t 30) (.c (.bool false)), none⟩]) (
          (.cond (.t 31) (
           .skip) (
           .exit 0))))) (
         (.seq (
          (.block 1 (
           (.seq (
            .region [] [
              ⟨some 34, .mv (.t 1), none⟩,
              ⟨some 35, .mv (.t 6), none⟩,
              ⟨some 36, .elemAddr 1 (.t 34) (.t 35), none⟩,
              ⟨some 37, .load false 1 (.t 36), none⟩,
              ⟨some 38, .conv .i64 (.t 37), none⟩,
              ⟨some 39, .mv (.t 5), none⟩,
              ⟨some 40, .len (.t 39), none⟩,
              ⟨some 41, .bin .rem (.t 38) (.t 40), none⟩,
              ⟨some 7, .mv (.t 41), none⟩]) (
            .region [] [
              ⟨some 42, .mv (.t 5), none⟩,
              ⟨some 43, .mv (.t 6), none⟩,
              ⟨some 44, .mv (.t 5), none⟩,
              ⟨some 45, .mv (.t 7), none⟩,
              ⟨some 46, .mv (.t 5), none⟩,
              ⟨some 47, .mv (.t 7), none⟩,
              ⟨some 48, .elemAddr 9 (.t 46) (.t 47), none⟩,
              ⟨some 49, .load true 9 (.t 48), none⟩,
              ⟨some 50, .mv (.t 5), none⟩,
              ⟨some 51, .mv (.t 6), none⟩,
              ⟨some 52, .elemAddr 9 (.t 50) (.t 51), none⟩,
              ⟨some 53, .load true 9 (.t 52), none⟩,
              ⟨some 54, .elemAddr 9 (.t 42) (.t 43), none⟩,
              ⟨none, .store 9 (.t 54) (.t 49), none⟩,
              ⟨some 55, .elemAddr 9 (.t 44) (.t 45), none⟩,
              ⟨none, .store 9 (.t 55) (.t 53), none⟩]))))) (
          .region [] [
            ⟨some 32, .mv (.t 6), none⟩,
            ⟨some 33, .bin .add (.t 32) (.c (.int .i64 1)), none⟩,
            ⟨some 6, .mv (.t 33), none⟩]))))))))))) (
     (.seq (
      .region [] [
        ⟨some 57, .mv (.t 0), none⟩,
        ⟨some 58, .call 0 (.c (.fn 21 [])) [(.t 57)], none⟩,
        ⟨some 59, .call 0 (.c (.fn 20 [])) [(.t 58)], none⟩,
        ⟨some 56, .mv (.t 59), none⟩,
        ⟨some 60, .ext (.t 56) 0, none⟩,
        ⟨some 61, .ext (.t 56) 1, none⟩,
        ⟨some 8, .mv (.t 60), none⟩,
        ⟨some 9, .mv (.t 61), none⟩]) (
      (.seq (
       .region [] [
         ⟨some 63, .mv (.t 5), none⟩,
         ⟨some 64, .call 0 (.c (.fn 20 [])) [(.t 63)], none⟩,
         ⟨some 62, .mv (.t 64), none⟩,
         ⟨some 65, .ext (.t 62) 0, none⟩,
         ⟨some 66, .ext (.t 62) 1, none⟩,
         ⟨some 10, .mv (.t 65), none⟩,
         ⟨some 11, .mv (.t 66), none⟩]) (
       (.seq (
        .region [] [
          ⟨some 67, .mv (.t 9), none⟩,
          ⟨some 68, .bin .eql (.t 67) (.c (.int .i64 0)), none⟩,
          ⟨some 69, .mv (.t 11), none⟩,
          ⟨some 70, .bin .eql (.t 69) (.c (.int .i64 0)), none⟩,
          ⟨some 71, .eqb false (.t 68) (.t 70), none⟩,
          ⟨some 4, .mv (.t 71), none⟩]) (
        .ret))))))))))))))⟩

def a7 : AFunc := ⟨[.tmp 4],
 (.seq (
  .region [] [
    ⟨some 4, .mv (.c (.bool false)), none⟩]) (
  (.seq (
   .region [] [
     ⟨some 5, .mv (.c (.int .i64 4096)), none⟩]) (
   (.seq (
    (.seq (
     .region [] [
       ⟨some 10, .mv (.t 0), none⟩]) (
     (.cond (.t 10) (
      .region [] [
        ⟨some 11, .mv (.t 5), none⟩,
        ⟨some 12, .bin .add (.t 11) (.c (.int .i64 1)), none⟩,
        ⟨some 5, .mv (.t 12), none⟩]) (
      .skip))))) (
    (.seq (
     .region [] [
       ⟨some 6, .mv (.c .nilsl), none⟩]) (
     (.seq (
      (.seq (
       .region [] [
         ⟨some 7, .mv (.c (.int .i64 0)), none⟩]) (
       (.block 0 (
        (.loop (
         (.seq (
          (.seq (
           .region [] [
             ⟨some 13, .mv (.t 7), none⟩,
             ⟨some 14, .mv (.t 5), none⟩,
             ⟨some 15, .bin .lss (.t 13) (.t 14), none⟩]) (
           (.cond (.t 15) (
            .skip) (
            .exit 0))))) (
          (.seq (
           (.block 1 (
            .region [] [
              ⟨some 18, .mv (.t 6), none⟩,
              ⟨some 19, .mv (.t 1), none⟩,
              ⟨some 20, .conv .i64 (.t 19), none⟩,
              ⟨some 21, .bin .rem (.t 20) (.c (.int .i64 7)), none⟩,
              ⟨some 22, .bin .add (.c (.int .i64 1)) (.t 21), none⟩,
              ⟨some 23, .mv (.t 7), none⟩,
              ⟨some 24, .bin .rem (.t 23) (.c (.int .i64 128)), none⟩,
              ⟨some 25, .mv (.t 7), none⟩,
              ⟨some 26, .bin .quo (.t 25) (.c (.int .i64 128)), none⟩,
              ⟨some 27, .bin .mul (.c (.int .i64 2)) (.t 26), none⟩,
              ⟨some 28, .build [(.int .i64 0), (.int .i64 0), (.int .i64 0), (.int .i64 0)] [(2, 1, (.t 24)), (1, 1, (.t 27))], none⟩,
              ⟨some 29, .mv (.t 7), none⟩,
              ⟨some 30, .bin .rem (.t 29) (.c (.int .i64 128)), none⟩,
              ⟨some 31, .mv (.t 7), none⟩,
              ⟨some 32, .bin .quo (.t 31) (.c (.int .i64 128)), none⟩,
              ⟨some 33, .bin .mul (.c (.int .i64 2)) (.t 32), none⟩,
              ⟨some 34, .bin .add (.t 33) (.c (.int .i64 1)), none⟩,
              ⟨some 35, .build [(.int .i64 0), (.int .i64 0), (.int .i64 0), (.int .i64 0)] [(2, 1, (.t 30)), (1, 1, (.t 34))], none⟩,
              ⟨some 36, .build [(.int .i64 0), (.int .i64 0), (.int .i64 0), (.int .i64 0), (.int .i64 0), (.int .i64 0), (.int .i64 0), (.int .i64 0), (.int .i64 0)] [(0, 1, (.t 22)), (1, 4, (.t 28)), (5, 4, (.t 35))], none⟩,
              ⟨some 37, .lit 9 [(.int .i64 0), (.int .i64 0), (.int .i64 0), (.int .i64 0), (.int .i64 0), (.int .i64 0), (.int .i64 0), (.int .i64 0), (.int .i64 0)] 1 [(0, 9, (.t 36))], none⟩,
              ⟨some 38, .app 1 9 72 (.t 18) (.t 37), none⟩,
              ⟨some 6, .mv (.t 38), none⟩]))) (
           .region [] [
             ⟨some 16, .mv (.t 7), none⟩,
             ⟨some 17, .bin .add (.t 16) (.c (.int .i64 1)), none⟩,
             ⟨some 7, .mv (.t 17), none⟩]))))))))))) (
      (.seq (
       .region [] [
         ⟨some 40, .mv (.t 6), none⟩,
         ⟨some 41, .call 0 (.c (.fn 20 [])) [(.t 40)], none⟩,
         ⟨some 39, .mv (.t 41), none⟩,
         ⟨some 42, .ext (.t 39) 0, none⟩,
         ⟨some 43, .ext (.t 39) 1, none⟩,
         ⟨some 8, .mv (.t 42), none⟩,
         ⟨some 9, .mv (.t 43), none⟩]) (
       (.seq (
        (.seq (
         .region [] [
           ⟨some 44, .mv (.t 0), none⟩]) (
         (.cond (.t 44) (
          (.seq (
           .region [] [
             ⟨some 45, .call 0 (.c (.fn 11 [])) [], none⟩,
             ⟨some 46, .mv (.t 45), none⟩,
             ⟨some 47, .mv (.t 8), some (46, true)⟩,
             ⟨some 48, .bin .eql (.t 47) (.c (.int .i64 4096)), some (46, true)⟩,
             ⟨some 49, .pick (.t 46) (.t 48) (.c (.bool false)), none⟩,
             ⟨some 50, .mv (.t 49), none⟩,
             ⟨some 51, .mv (.t 9), some (50, true)⟩,
             ⟨some 52, .bin .eql (.t 51) (.c (.int .i64 9)), some (50, true)⟩,
             ⟨some 53, .pick (.t 50) (.t 52) (.c (.bool false)), none⟩,
             ⟨some 4, .mv (.t 53), none⟩]) (
           .ret))) (
          .skip))))) (
        (.seq (
         .region [] [
           ⟨some 54, .call 0 (.c (.fn 11 [])) [], none⟩,
           ⟨some 55, .mv (.t 54), none⟩,
           ⟨some 56, .mv (.t 8), some (55, true)⟩,
           ⟨some 57, .bin .eql (.t 56) (.c (.int .i64 (-1))), some (55, true)⟩,
           ⟨some 58, .pick (.t 55) (.t 57) (.c (.bool false)), none⟩,
           ⟨some 59, .mv (.t 58), none⟩,
           ⟨some 60, .mv (.t 9), some (59, true)⟩,
           ⟨some 61, .bin .eql (.t 60) (.c (.int .i64 0)), some (59, true)⟩,
           ⟨some 62, .pick (.t 59) (.t 61) (.c (.bool false)), none⟩,
           ⟨some 4, .mv (.t 62), none⟩]) (
         .ret))))))))))))))))⟩

def a8 : AFunc := ⟨[.tmp 4],
 (.seq (
  .region [] [
    ⟨some 4, .mv (.c (.bool false)), none⟩]) (
  (.seq (
   .region [] [
     ⟨some 10, .mv (.t 1), none⟩,
     ⟨some 11, .mv (.t 1), none⟩,
     ⟨some 12, .slen (.t 11), none⟩,
     ⟨some 13, .mm false [(.t 12), (.c (.int .i64 30))], none⟩,
     ⟨some 14, .strSub (.t 10) none (some (.t 13)), none⟩,
     ⟨some 1, .mv (.t 14), none⟩]) (
   (.seq (
    .region [] [
      ⟨some 5, .mv (.c (.str ⟨#[]⟩)), none⟩]) (
    (.seq (
     (.seq (
      .region [] [
        ⟨some 15, .mv (.t 0), none⟩,
        ⟨some 16, .bin .geq (.t 15) (.c (.int .i64 1)), none⟩,
        ⟨some 17, .mv (.t 16), none⟩,
        ⟨some 18, .mv (.t 0), some (17, true)⟩,
        ⟨some 19, .bin .leq (.t 18) (.c (.int .i64 7)), some (17, true)⟩,
        ⟨some 20, .pick (.t 17) (.t 19) (.c (.bool false)), none⟩]) (
      (.cond (.t 20) (
       .region [] [
         ⟨some 21, .call 0 (.c (.fn 23 [])) [], none⟩,
         ⟨some 22, .mv (.t 0), none⟩,
         ⟨some 23, .bin .sub (.t 22) (.c (.int .i64 1)), none⟩,
         ⟨some 24, .elemAddr 1 (.t 21) (.t 23), none⟩,
         ⟨some 25, .load false 1 (.t 24), none⟩,
         ⟨some 5, .mv (.t 25), none⟩]) (
       .skip))))) (
     (.seq (
      .region [] [
        ⟨some 27, .mv (.t 1), none⟩,
        ⟨some 28, .call 0 (.c (.fn 24 [])) [(.t 27)], none⟩,
        ⟨some 26, .mv (.t 28), none⟩,
        ⟨some 29, .ext (.t 26) 0, none⟩,
        ⟨some 30, .ext (.t 26) 1, none⟩,
        ⟨some 6, .mv (.t 29), none⟩,
        ⟨some 7, .mv (.t 30), none⟩]) (
      (.seq (
       .region [] [
         ⟨some 8, .mv (.c (.int .i64 0)), none⟩]) (
       (.seq (
        (.seq (
         .region [] [
           ⟨some 9, .mv (.c (.int .i64 0)), none⟩]) (
         (.block 0 (
          (.loop (
           (.seq (
            (.seq (
             .region [] [
               ⟨some 31, .mv (.t 9), none⟩,
               ⟨some 32, .bin .lss (.t 31) (.c (.int .i64 7)), none⟩]) (
             (.cond (.t 32) (
              .skip) (
              .exit 0))))) (
            (.seq (
             (.block 1 (
              (.seq (
               .region [] [
                 ⟨some 35, .call 0 (.c (.fn 23 [])) [], none⟩,
                 ⟨some 36, .mv (.t 9), none⟩,
                 ⟨some 37, .elemAddr 1 (.t 35) (.t 36), none⟩,
                 ⟨some 38, .load false 1 (.t 37), none⟩,
                 ⟨some 39, .mv (.t 1), none⟩,
                 ⟨some 40, .bin .eql (.t 38) (.t 39), none⟩]) (
               (.cond (.t 40) (
                .region [] [
                  ⟨some 41, .mv (.t 9), none⟩,
                  ⟨some 42, .bin .add (.t 41) (.c (.int .i64 1)), none⟩,
                  ⟨some 8, .mv (.t 42), none⟩]) (
                .skip))))))) (
             .region [] [
               ⟨some 33, .mv (.t 9), none⟩,
               ⟨some 34, .bin .add (.t 33) (.c (.int .i64 1)), none⟩,
               ⟨some 9, .mv (.t 34), none⟩]))))))))))) (
        (.seq (
         .region [] [
           ⟨some 43, .call 0 (.c (.fn 11 [])) [], none⟩,
           ⟨some 44, .mv (.t 43), none⟩,
           ⟨some 45, .mv (.t 0), some (44, true)⟩,
           ⟨some 46, .call 0 (.c (.fn 25 [])) [(.t 45)], some (44, true)⟩,
           ⟨some 47, .mv (.t 5), some (44, true)⟩,
           ⟨some 48, .bin .eql (.t 46) (.t 47), some (44, true)⟩,
           ⟨some 49, .pick (.t 44) (.t 48) (.c (.bool false)), none⟩,
           ⟨some 50, .mv (.t 49), none⟩,
           ⟨some 51, .mv (.t 6), some (50, true)⟩,
           ⟨some 52, .mv (.t 8), some (50, true)⟩,
           ⟨some 53, .bin .eql (.t 51) (.t 52), some (50, true)⟩,
           ⟨some 54, .pick (.t 50) (.t 53) (.c (.bool false)), none⟩,
           ⟨some 55, .mv (.t 54), none⟩,
           ⟨some 56, .mv (.t 7), some (55, true)⟩,
           ⟨some 57, .bin .eql (.t 56) (.c (.int .i64 0)), some (55, true)⟩,
           ⟨some 58, .mv (.t 8), some (55, true)⟩,
           ⟨some 59, .bin .gtr (.t 58) (.c (.int .i64 0)), some (55, true)⟩,
           ⟨some 60, .eqb false (.t 57) (.t 59), some (55, true)⟩,
           ⟨some 61, .pick (.t 55) (.t 60) (.c (.bool false)), none⟩,
           ⟨some 62, .mv (.t 61), none⟩,
           ⟨some 63, .mv (.t 7), some (62, true)⟩,
           ⟨some 64, .bin .eql (.t 63) (.c (.int .i64 0)), some (62, true)⟩,
           ⟨some 65, .mv (.t 64), some (62, true)⟩,
           ⟨some 66, .mv (.t 7), some (65, false)⟩,
           ⟨some 67, .bin .eql (.t 66) (.c (.int .i64 32)), some (65, false)⟩,
           ⟨some 68, .pick (.t 65) (.c (.bool true)) (.t 67), some (62, true)⟩,
           ⟨some 69, .pick (.t 62) (.t 68) (.c (.bool false)), none⟩,
           ⟨some 4, .mv (.t 69), none⟩]) (
         .ret))))))))))))))))⟩

def a9 : AFunc := ⟨[.tmp 6],
 (.seq (
  .region [] [
    ⟨some 5, .box 1 (.t 2), none⟩,
    ⟨some 6, .mv (.c (.bool false)), none⟩]) (
  (.seq (
   (.seq (
    .region [] [
      ⟨some 12, .call 0 (.c (.fn 11 [])) [], none⟩,
      ⟨some 13, .not (.t 12), none⟩,
      ⟨some 14, .mv (.t 13), none⟩,
      ⟨some 15, .mv (.t 0), some (14, false)⟩,
      ⟨some 16, .len (.t 15), some (14, false)⟩,
      ⟨some 17, .bin .gtr (.t 16) (.c (.int .i64 20)), some (14, false)⟩,
      ⟨some 18, .pick (.t 14) (.c (.bool true)) (.t 17), none⟩]) (
    (.cond (.t 18) (
     (.seq (
      .region [] [
        ⟨some 19, .call 0 (.c (.fn 11 [])) [], none⟩,
        ⟨some 6, .mv (.t 19), none⟩]) (
      .ret))) (
     .skip))))) (
   (.seq (
    .region [] [
      ⟨some 20, .mv (.t 0), none⟩,
      ⟨some 21, .call 0 (.c (.fn 21 [])) [(.t 20)], none⟩,
      ⟨some 22, .mv (.t 1), none⟩,
      ⟨some 23, .load true 4 (.t 5), none⟩,
      ⟨some 24, .call 0 (.c (.fn 16 [])) [(.t 23)], none⟩,
      ⟨some 25, .call 0 (.c (.fn 26 [])) [(.t 21), (.t 22), (.t 24)], none⟩,
      ⟨some 26, .mv (.t 0), none⟩,
      ⟨some 27, .call 0 (.c (.fn 21 [])) [(.t 26)], none⟩,
      ⟨some 28, .fieldAddr 0 (.t 5), none⟩,
      ⟨some 29, .load false 1 (.t 28), none⟩,
      ⟨some 30, .call 0 (.c (.fn 27 [])) [(.t 27), (.t 29)], none⟩,
      ⟨some 7, .mv (.t 25), none⟩,
      ⟨some 8, .mv (.t 30), none⟩]) (
    (.seq (
     .region [] [
       ⟨some 9, .mv (.c (.int .i64 0)), none⟩,
       ⟨some 10, .mv (.c (.int .i64 0)), none⟩]) (
     (.seq (
      (.seq (
       .region [] [
         ⟨some 11, .mv (.c (.int .i64 0)), none⟩]) (
       (.block 0 (
        (.loop (
         (.seq (
          (.seq (
           .region [] [
             ⟨some 31, .mv (.t 11), none⟩,
             ⟨some 32, .mv (.t 0), none⟩,
             ⟨some 33, .len (.t 32), none⟩,
             ⟨some 34, .bin .lss (.t 31) (.t 33), none⟩]) (
           (.cond (.t 34) (
            .skip) (
            .exit 0))))) (
          (.seq (
           (.block 1 (
            (.seq (
             (.seq (
              .region [] [
                ⟨some 37, .mv (.t 0), none⟩,
                ⟨some 38, .mv (.t 11), none⟩,
                ⟨some 39, .elemAddr 9 (.t 37) (.t 38), none⟩,
                ⟨some 40, .fieldAddr 0 (.t 39), none⟩,
                ⟨some 41, .load false 1 (.t 40), none⟩,
                ⟨some 42, .mv (.t 1), none⟩,
                ⟨some 43, .bin .eql (.t 41) (.t 42), none⟩,
                ⟨some 44, .mv (.t 43), none⟩,
                ⟨some 45, .mv (.t 0), some (44, true)⟩,
                ⟨some 46, .mv (.t 11), some (44, true)⟩,
                ⟨some 47, .elemAddr 9 (.t 45) (.t 46), some (44, true)⟩,
                ⟨some 48, .load true 9 (.t 47), some (44, true)⟩,
                ⟨some 49, .load true 4 (.t 5), some (44, true)⟩,
                ⟨some 50, .call 0 (.c (.fn 28 [])) [(.t 48), (.t 49)], some (44, true)⟩,
                ⟨some 51, .pick (.t 44) (.t 50) (.c (.bool false)), none⟩]) (
              (.cond (.t 51) (
               (.seq (
                (.seq (
                 .region [] [
                   ⟨some 52, .mv (.t 9), none⟩,
                   ⟨some 53, .mv (.t 7), none⟩,
                   ⟨some 54, .len (.t 53), none⟩,
                   ⟨some 55, .bin .geq (.t 52) (.t 54), none⟩,
                   ⟨some 56, .mv (.t 55), none⟩,
                   ⟨some 57, .mv (.t 7), some (56, false)⟩,
                   ⟨some 58, .mv (.t 9), some (56, false)⟩,
                   ⟨some 59, .elemAddr 1 (.t 57) (.t 58), some (56, false)⟩,
                   ⟨some 60, .load false 1 (.t 59), some (56, false)⟩,
                   ⟨some 61, .mv (.t 11), some (56, false)⟩,
                   ⟨some 62, .bin .neq (.t 60) (.t 61), some (56, false)⟩,
                   ⟨some 63, .pick (.t 56) (.c (.bool true)) (.t 62), none⟩]) (
                 (.cond (.t 63) (
                  (.seq (
                   .region [] [
                     ⟨some 6, .mv (.c (.bool false)), none⟩]) (
                   .ret))) (
                  .skip))))) (
                .region [] [
                  ⟨some 64, .mv (.t 9), none⟩,
                  ⟨some 65, .bin .add (.t 64) (.c (.int .i64 1)), none⟩,
                  ⟨some 9, .mv (.t 65), none⟩]))) (
               .skip))))) (
             (.seq (
              .region [] [
                ⟨some 66, .mv (.t 0), none⟩,
                ⟨some 67, .mv (.t 11), none⟩,
                ⟨some 68, .elemAddr 9 (.t 66) (.t 67), none⟩,
                ⟨some 69, .fieldAddr 1 (.t 68), none⟩,
                ⟨some 70, .fieldAddr 0 (.t 69), none⟩,
                ⟨some 71, .load false 1 (.t 70), none⟩,
                ⟨some 72, .fieldAddr 0 (.t 5), none⟩,
                ⟨some 73, .load false 1 (.t 72), none⟩,
                ⟨some 74, .bin .leq (.t 71) (.t 73), none⟩,
                ⟨some 75, .mv (.t 74), none⟩,
                ⟨some 76, .fieldAddr 0 (.t 5), some (75, true)⟩,
                ⟨some 77, .load false 1 (.t 76), some (75, true)⟩,
                ⟨some 78, .mv (.t 0), some (75, true)⟩,
                ⟨some 79, .mv (.t 11), some (75, true)⟩,
                ⟨some 80, .elemAddr 9 (.t 78) (.t 79), some (75, true)⟩,
                ⟨some 81, .fieldAddr 5 (.t 80), some (75, true)⟩,
                ⟨some 82, .fieldAddr 0 (.t 81), some (75, true)⟩,
                ⟨some 83, .load false 1 (.t 82), some (75, true)⟩,
                ⟨some 84, .bin .leq (.t 77) (.t 83), some (75, true)⟩,
                ⟨some 85, .pick (.t 75) (.t 84) (.c (.bool false)), none⟩]) (
              (.cond (.t 85) (
               (.seq (
                (.seq (
                 .region [] [
                   ⟨some 86, .mv (.t 10), none⟩,
                   ⟨some 87, .mv (.t 8), none⟩,
                   ⟨some 88, .len (.t 87), none⟩,
                   ⟨some 89, .bin .geq (.t 86) (.t 88), none⟩,
                   ⟨some 90, .mv (.t 89), none⟩,
                   ⟨some 91, .mv (.t 8), some (90, false)⟩,
                   ⟨some 92, .mv (.t 10), some (90, false)⟩,
                   ⟨some 93, .elemAddr 1 (.t 91) (.t 92), some (90, false)⟩,
                   ⟨some 94, .load false 1 (.t 93), some (90, false)⟩,
                   ⟨some 95, .mv (.t 11), some (90, false)⟩,
                   ⟨some 96, .bin .neq (.t 94) (.t 95), some (90, false)⟩,
                   ⟨some 97, .pick (.t 90) (.c (.bool true)) (.t 96), none⟩]) (
                 (.cond (.t 97) (
                  (.seq (
                   .region [] [
                     ⟨some 6, .mv (.c (.bool false)), none⟩]) (
                   .ret))) (
                  .skip))))) (
                .region [] [
                  ⟨some 98, .mv (.t 10), none⟩,
                  ⟨some 99, .bin .add (.t 98) (.c (.int .i64 1)), none⟩,
                  ⟨some 10, .mv (.t 99), none⟩]))) (
               .skip))))))))) (
           .region [] [
             ⟨some 35, .mv (.t 11), none⟩,
             ⟨some 36, .bin .add (.t 35) (.c (.int .i64 1)), none⟩,
             ⟨some 11, .mv (.t 36), none⟩]))))))))))) (
      (.seq (
       .region [] [
         ⟨some 100, .mv (.t 9), none⟩,
         ⟨some 101, .mv (.t 7), none⟩,
         ⟨some 102, .len (.t 101), none⟩,
         ⟨some 103, .bin .eql (.t 100) (.t 102), none⟩,
         ⟨some 104, .mv (.t 103), none⟩,
         ⟨some 105, .mv (.t 10), some (104, true)⟩,
         ⟨some 106, .mv (.t 8), some (104, true)⟩,
         ⟨some 107, .len (.t 106), some (104, true)⟩,
         ⟨some 108, .bin .eql (.t 105) (.t 107), some (104, true)⟩,
         ⟨some 109, .pick (.t 104) (.t 108) (.c (.bool false)), none⟩,
         ⟨some 110, .mv (.t 109), none⟩,
         ⟨some 111, .mv (.t 0), some (110, true)⟩,
         ⟨some 112, .call 0 (.c (.fn 21 [])) [(.t 111)], some (110, true)⟩,
         ⟨some 113, .load true 4 (.t 5), some (110, true)⟩,
         ⟨some 114, .call 0 (.c (.fn 16 [])) [(.t 113)], some (110, true)⟩,
         ⟨some 115, .call 0 (.c (.fn 29 [])) [(.t 112), (.t 114)], some (110, true)⟩,
         ⟨some 116, .mv (.t 0), some (110, true)⟩,
         ⟨some 117, .load true 4 (.t 5), some (110, true)⟩,
         ⟨some 118, .call 0 (.c (.fn 30 [])) [(.t 116), (.t 117)], some (110, true)⟩,
         ⟨some 119, .bin .eql (.t 115) (.t 118), some (110, true)⟩,
         ⟨some 120, .pick (.t 110) (.t 119) (.c (.bool false)), none⟩,
         ⟨some 6, .mv (.t 120), none⟩]) (
       .ret))))))))))))⟩

def a10 : AFunc := ⟨[.tmp 4],
 (.seq (
  .region [] [
    ⟨some 2, .box 1 (.t 0), none⟩,
    ⟨some 4, .mv (.c (.bool false)), none⟩]) (
  (.seq (
   (.seq (
    .region [] [
      ⟨some 10, .call 0 (.c (.fn 11 [])) [], none⟩,
      ⟨some 11, .not (.t 10), none⟩,
      ⟨some 12, .mv (.t 11), none⟩,
      ⟨some 13, .mv (.t 1), some (12, false)⟩,
      ⟨some 14, .len (.t 13), some (12, false)⟩,
      ⟨some 15, .bin .gtr (.t 14) (.c (.int .i64 20)), some (12, false)⟩,
      ⟨some 16, .pick (.t 12) (.c (.bool true)) (.t 15), none⟩,
      ⟨some 17, .mv (.t 16), none⟩,
      ⟨some 18, .fieldAddr 5 (.t 2), some (17, false)⟩,
      ⟨some 19, .fieldAddr 0 (.t 18), some (17, false)⟩,
      ⟨some 20, .load false 1 (.t 19), some (17, false)⟩,
      ⟨some 21, .bin .gtr (.t 20) (.c (.int .i64 1048576)), some (17, false)⟩,
      ⟨some 22, .pick (.t 17) (.c (.bool true)) (.t 21), none⟩,
      ⟨some 23, .mv (.t 22), none⟩,
      ⟨some 24, .fieldAddr 1 (.t 2), some (23, false)⟩,
      ⟨some 25, .fieldAddr 0 (.t 24), some (23, false)⟩,
      ⟨some 26, .load false 1 (.t 25), some (23, false)⟩,
      ⟨some 27, .bin .lss (.t 26) (.c (.int .i64 (-1048576))), some (23, false)⟩,
      ⟨some 28, .pick (.t 23) (.c (.bool true)) (.t 27), none⟩,
      ⟨some 29, .mv (.t 28), none⟩,
      ⟨some 30, .fieldAddr 5 (.t 2), some (29, false)⟩,
      ⟨some 31, .fieldAddr 0 (.t 30), some (29, false)⟩,
      ⟨some 32, .load false 1 (.t 31), some (29, false)⟩,
      ⟨some 33, .fieldAddr 1 (.t 2), some (29, false)⟩,
      ⟨some 34, .fieldAddr 0 (.t 33), some (29, false)⟩,
      ⟨some 35, .load false 1 (.t 34), some (29, false)⟩,
      ⟨some 36, .bin .sub (.t 32) (.t 35), some (29, false)⟩,
      ⟨some 37, .bin .gtr (.t 36) (.c (.int .i64 200)), some (29, false)⟩,
      ⟨some 38, .pick (.t 29) (.c (.bool true)) (.t 37), none⟩]) (
    (.cond (.t 38) (
     (.seq (
      .region [] [
        ⟨some 39, .call 0 (.c (.fn 11 [])) [], none⟩,
        ⟨some 4, .mv (.t 39), none⟩]) (
      .ret))) (
     .skip))))) (
   (.seq (
    .region [] [
      ⟨some 41, .load true 9 (.t 2), none⟩,
      ⟨some 42, .call 0 (.c (.fn 13 [])) [(.t 41)], none⟩,
      ⟨some 43, .mv (.t 1), none⟩,
      ⟨some 44, .call 0 (.c (.fn 31 [])) [(.t 42), (.t 43)], none⟩,
      ⟨some 40, .mv (.t 44), none⟩,
      ⟨some 45, .ext (.t 40) 0, none⟩,
      ⟨some 46, .ext (.t 40) 1, none⟩,
      ⟨some 5, .mv (.t 45), none⟩,
      ⟨some 6, .mv (.t 46), none⟩]) (
    (.seq (
     .region [] [
       ⟨some 48, .load true 9 (.t 2), none⟩,
       ⟨some 49, .mv (.t 1), none⟩,
       ⟨some 50, .call 0 (.c (.fn 32 [])) [(.t 48), (.t 49)], none⟩,
       ⟨some 47, .mv (.t 50), none⟩,
       ⟨some 51, .ext (.t 47) 0, none⟩,
       ⟨some 52, .ext (.t 47) 1, none⟩,
       ⟨some 7, .mv (.t 51), none⟩,
       ⟨some 8, .mv (.t 52), none⟩]) (
     (.seq (
      (.seq (
       .region [] [
         ⟨some 53, .mv (.t 6), none⟩,
         ⟨some 54, .mv (.t 8), none⟩,
         ⟨some 55, .bin .neq (.t 53) (.t 54), none⟩,
         ⟨some 56, .mv (.t 55), none⟩,
         ⟨some 57, .mv (.t 5), some (56, false)⟩,
         ⟨some 58, .len (.t 57), some (56, false)⟩,
         ⟨some 59, .mv (.t 7), some (56, false)⟩,
         ⟨some 60, .len (.t 59), some (56, false)⟩,
         ⟨some 61, .bin .neq (.t 58) (.t 60), some (56, false)⟩,
         ⟨some 62, .pick (.t 56) (.c (.bool true)) (.t 61), none⟩]) (
       (.cond (.t 62) (
        (.seq (
         .region [] [
           ⟨some 4, .mv (.c (.bool false)), none⟩]) (
         .ret))) (
        .skip))))) (
      (.seq (
       (.seq (
        .region [] [
          ⟨some 9, .mv (.c (.int .i64 0)), none⟩]) (
        (.block 0 (
         (.loop (
          (.seq (
           (.seq (
            .region [] [
              ⟨some 63, .mv (.t 9), none⟩,
              ⟨some 64, .mv (.t 5), none⟩,
              ⟨some 65, .len (.t 64), none⟩,
              ⟨some 66, .bin .lss (.t 63) (.t 65), none⟩]) (
            (.cond (.t 66) (
             .skip) (
             .exit 0))))) (
           (.seq (
            (.block 1 (
             (.seq (
              .region [] [
                ⟨some 69, .mv (.t 5), none⟩,
                ⟨some 70, .mv (.t 9), none⟩,
                ⟨some 71, .elemAddr 5 (.t 69) (.t 70), none⟩,
                ⟨some 72, .fieldAddr 0 (.t 71), none⟩,
                ⟨some 73, .load false 1 (.t 72), none⟩,
                ⟨some 74, .mv (.t 7), none⟩,
                ⟨some 75, .mv (.t 9), none⟩,
                ⟨some 76, .elemAddr 5 (.t 74) (.t 75), none⟩,
                ⟨some 77, .fieldAddr 0 (.t 76), none⟩,
                ⟨some 78, .load false 1 (.t 77), none⟩,
                ⟨some 79, .bin .neq (.t 73) (.t 78), none⟩,
                ⟨some 80, .mv (.t 79), none⟩,
                ⟨some 81, .mv (.t 5), some (80, false)⟩,
                ⟨some 82, .mv (.t 9), some (80, false)⟩,
                ⟨some 83, .elemAddr 5 (.t 81) (.t 82), some (80, false)⟩,
                ⟨some 84, .fieldAddr 1 (.t 83), some (80, false)⟩,
                ⟨some 85, .load false 1 (.t 84), some (80, false)⟩,
                ⟨some 86, .mv (.t 7), some (80, false)⟩,
                ⟨some 87, .mv (.t 9), some (80, false)⟩,
                ⟨some 88, .elemAddr 5 (.t 86) (.t 87), some (80, false)⟩,
                ⟨some 89, .fieldAddr 1 (.t 88), some (80, false)⟩,
                ⟨some 90, .load false 1 (.t 89), some (80, false)⟩,
                ⟨some 91, .bin .neq (.t 85) (.t 90), some (80, false)⟩,
                ⟨some 92, .pick (.t 80) (.c (.bool true)) (.t 91), none⟩,
                ⟨some 93, .mv (.t 92), none⟩,
                ⟨some 94, .mv (.t 5), some (93, false)⟩,
                ⟨some 95, .mv (.t 9), some (93, false)⟩,
                ⟨some 96, .elemAddr 5 (.t 94) (.t 95), some (93, false)⟩,
                ⟨some 97, .fieldAddr 2 (.t 96), some (93, false)⟩,
                ⟨some 98, .load false 1 (.t 97), some (93, false)⟩,
                ⟨some 99, .mv (.t 7), some (93, false)⟩,
                ⟨some 100, .mv (.t 9), some (93, false)⟩,
                ⟨some 101, .elemAddr 5 (.t 99) (.t 100), some (93, false)⟩,
                ⟨some 102, .fieldAddr 2 (.t 101), some (93, false)⟩,
                ⟨some 103, .load false 1 (.t 102), some (93, false)⟩,
                ⟨some 104, .bin .neq (.t 98) (.t 103), some (93, false)⟩,
                ⟨some 105, .pick (.t 93) (.c (.bool true)) (.t 104), none⟩,
                ⟨some 106, .mv (.t 105), none⟩,
                ⟨some 107, .mv (.t 5), some (106, false)⟩,
                ⟨some 108, .mv (.t 9), some (106, false)⟩,
                ⟨some 109, .elemAddr 5 (.t 107) (.t 108), some (106, false)⟩,
                ⟨some 110, .fieldAddr 3 (.t 109), some (106, false)⟩,
                ⟨some 111, .load false 1 (.t 110), some (106, false)⟩,
                ⟨some 112, .mv (.t 7), some (106, false)⟩,
                ⟨some 113, .mv (.t 9), some (106, false)⟩,
                ⟨some 114, .elemAddr 5 (.t 112) (.t 113), some (106, false)⟩,
                ⟨some 115, .fieldAddr 3 (.t 114), some (106, false)⟩,
                ⟨some 116, .load false 1 (.t 115), some (106, false)⟩,
                ⟨some 117, .eqb true (.t 111) (.t 116), some (106, false)⟩,
                ⟨some 118, .pick (.t 106) (.c (.bool true)) (.t 117), none⟩,
                ⟨some 119, .mv (.t 118), none⟩,
                ⟨some 120, .mv (.t 5), some (119, false)⟩,
                ⟨some 121, .mv (.t 9), some (119, false)⟩,
                ⟨some 122, .elemAddr 5 (.t 120) (.t 121), some (119, false)⟩,
                ⟨some 123, .fieldAddr 4 (.t 122), some (119, false)⟩,
                ⟨some 124, .load false 1 (.t 123), some (119, false)⟩,
                ⟨some 125, .mv (.t 7), some (119, false)⟩,
                ⟨some 126, .mv (.t 9), some (119, false)⟩,
                ⟨some 127, .elemAddr 5 (.t 125) (.t 126), some (119, false)⟩,
                ⟨some 128, .fieldAddr 4 (.t 127), some (119, false)⟩,
                ⟨some 129, .load false 1 (.t 128), some (119, false)⟩,
                ⟨some 130, .eqb true (.t 124) (.t 129), some (119, false)⟩,
                ⟨some 131, .pick (.t 119) (.c (.bool true)) (.t 130), none⟩]) (
              (.cond (.t 131) (
               (.seq (
                .region [] [
                  ⟨some 4, .mv (.c (.bool false)), none⟩]) (
                .ret))) (
               .skip))))))) (
            .region [] [
              ⟨some 67, .mv (.t 9), none⟩,
              ⟨some 68, .bin .add (.t 67) (.c (.int .i64 1)), none⟩,
              ⟨some 9, .mv (.t 68), none⟩]))))))))))) (
       (.seq (
        .region [] [
          ⟨some 4, .mv (.c (.bool true)), none⟩]) (
        .ret))))))))))))))⟩

def a11 : AFunc := ⟨[.tmp 0],
 (.seq (
  .region [] [
    ⟨some 0, .mv (.c (.bool false)), none⟩]) (
  (.seq (
   .region [] [
     ⟨some 8, .build [(.int .i64 0), (.int .i64 0), (.int .i64 0), (.int .i64 0)] [(0, 1, (.c (.int .i64 2)))], none⟩,
     ⟨some 9, .build [(.int .i64 0), (.int .i64 0), (.int .i64 0), (.int .i64 0), (.int .i64 0), (.int .i64 0), (.int .i64 0), (.int .i64 0), (.int .i64 0)] [(0, 1, (.c (.int .i64 1))), (5, 4, (.t 8))], none⟩,
     ⟨some 1, .alloc 1 [(.int .i64 0), (.int .i64 0), (.int .i64 0), (.int .i64 0), (.int .i64 0), (.int .i64 0), (.int .i64 0), (.int .i64 0), (.int .i64 0)], none⟩,
     ⟨none, .store 9 (.t 1) (.t 9), none⟩]) (
   (.seq (
    .region [] [
      ⟨some 10, .build [(.int .i64 0), (.int .i64 0), (.int .i64 0), (.int .i64 0)] [(0, 1, (.c (.int .i64 2)))], none⟩,
      ⟨some 11, .build [(.int .i64 0), (.int .i64 0), (.int .i64 0), (.int .i64 0)] [(0, 1, (.c (.int .i64 3)))], none⟩,
      ⟨some 12, .build [(.int .i64 0), (.int .i64 0), (.int .i64 0), (.int .i64 0), (.int .i64 0), (.int .i64 0), (.int .i64 0), (.int .i64 0), (.int .i64 0)] [(0, 1, (.c (.int .i64 1))), (1, 4, (.t 10)), (5, 4, (.t 11))], none⟩,
      ⟨some 2, .alloc 2 [(.int .i64 0), (.int .i64 0), (.int .i64 0), (.int .i64 0), (.int .i64 0), (.int .i64 0), (.int .i64 0), (.int .i64 0), (.int .i64 0)], none⟩,
      ⟨none, .store 9 (.t 2) (.t 12), none⟩]) (
    (.seq (
     .region [] [
       ⟨some 13, .build [(.int .i64 0), (.int .i64 0), (.int .i64 0), (.int .i64 0)] [(0, 1, (.c (.int .i64 1)))], none⟩,
       ⟨some 14, .build [(.int .i64 0), (.int .i64 0), (.int .i64 0), (.int .i64 0)] [(0, 1, (.c (.int .i64 3)))], none⟩,
       ⟨some 15, .build [(.int .i64 0), (.int .i64 0), (.int .i64 0), (.int .i64 0), (.int .i64 0), (.int .i64 0), (.int .i64 0), (.int .i64 0), (.int .i64 0)] [(0, 1, (.c (.int .i64 1))), (1, 4, (.t 13)), (5, 4, (.t 14))], none⟩,
       ⟨some 3, .alloc 3 [(.int .i64 0), (.int .i64 0), (.int .i64 0), (.int .i64 0), (.int .i64 0), (.int .i64 0), (.int .i64 0), (.int .i64 0), (.int .i64 0)], none⟩,
       ⟨none, .store 9 (.t 3) (.t 15), none⟩]) (
     (.seq (
      .region [] [
        ⟨some 17, .load true 9 (.t 1), none⟩,
        ⟨some 18, .load true 9 (.t 2), none⟩,
        ⟨some 19, .lit 9 [(.int .i64 0), (.int .i64 0), (.int .i64 0), (.int .i64 0), (.int .i64 0), (.int .i64 0), (.int .i64 0), (.int .i64 0), (.int .i64 0)] 2 [(0, 9, (.t 17)), (9, 9, (.t 18))], none⟩,
        ⟨some 20, .call 0 (.c (.fn 20 [])) [(.t 19)], none⟩,
        ⟨some 16, .mv (.t 20), none⟩,
        ⟨some 21, .ext (.t 16) 0, none⟩,
        ⟨some 22, .ext (.t 16) 1, none⟩,
        ⟨some 4, .mv (.t 21), none⟩,
        ⟨some 5, .mv (.t 22), none⟩]) (
      (.seq (
       .region [] [
         ⟨some 24, .load true 9 (.t 1), none⟩,
         ⟨some 25, .load true 9 (.t 2), none⟩,
         ⟨some 26, .load true 9 (.t 3), none⟩,
         ⟨some 27, .lit 9 [(.int .i64 0), (.int .i64 0), (.int .i64 0), (.int .i64 0), (.int .i64 0), (.int .i64 0), (.int .i64 0), (.int .i64 0), (.int .i64 0)] 3 [(0, 9, (.t 24)), (9, 9, (.t 25)), (18, 9, (.t 26))], none⟩,
         ⟨some 28, .call 0 (.c (.fn 20 [])) [(.t 27)], none⟩,
         ⟨some 23, .mv (.t 28), none⟩,
         ⟨some 29, .ext (.t 23) 0, none⟩,
         ⟨some 30, .ext (.t 23) 1, none⟩,
         ⟨some 6, .mv (.t 29), none⟩,
         ⟨some 7, .mv (.t 30), none⟩]) (
       (.seq (
        .region [] [
          ⟨some 31, .mv (.t 4), none⟩,
          ⟨some 32, .bin .eql (.t 31) (.c (.int .i64 (-1))), none⟩,
          ⟨some 33, .mv (.t 32), none⟩,
          ⟨some 34, .mv (.t 5), some (33, true)⟩,
          ⟨some 35, .bin .eql (.t 34) (.c (.int .i64 0)), some (33, true)⟩,
          ⟨some 36, .pick (.t 33) (.t 35) (.c (.bool false)), none⟩,
          ⟨some 37, .mv (.t 36), none⟩,
          ⟨some 38, .mv (.t 6), some (37, true)⟩,
          ⟨some 39, .bin .eql (.t 38) (.c (.int .i64 2)), some (37, true)⟩,
          ⟨some 40, .pick (.t 37) (.t 39) (.c (.bool false)), none⟩,
          ⟨some 41, .mv (.t 40), none⟩,
          ⟨some 42, .mv (.t 7), some (41, true)⟩,
          ⟨some 43, .bin .eql (.t 42) (.c (.int .i64 26)), some (41, true)⟩,
          ⟨some 44, .pick (.t 41) (.t 43) (.c (.bool false)), none⟩,
          ⟨some 45, .mv (.t 44), none⟩,
          ⟨some 46, .call 0 (.c (.fn 25 [])) [(.c (.int .i64 4))], some (45, true)⟩,
          ⟨some 47, .bin .eql (.t 46) (.c (.str ⟨#[56, 118, 97]⟩)), some (45, true)⟩,
          ⟨some 48, .pick (.t 45) (.t 47) (.c (.bool false)), none⟩,
          ⟨some 0, .mv (.t 48), none⟩]) (
        .ret))))))))))))))⟩

def a12 : AFunc := ⟨[.tmp 2],
 (.seq (
  .region [] [
    ⟨some 1, .box 1 (.t 0), none⟩,
    ⟨some 2, .mv (.c (.int .i64 0)), none⟩]) (
  (.seq (
   (.block 0 (
    (.seq (
     .region [] [
       ⟨some 4, .fieldAddr 0 (.t 1), none⟩,
       ⟨some 5, .load false 1 (.t 4), none⟩,
       ⟨some 6, .bin .lss (.t 5) (.c (.int .i64 1)), none⟩,
       ⟨some 7, .mv (.t 6), none⟩,
       ⟨some 8, .fieldAddr 0 (.t 1), some (7, false)⟩,
       ⟨some 9, .load false 1 (.t 8), some (7, false)⟩,
       ⟨some 10, .bin .gtr (.t 9) (.c (.int .i64 7)), some (7, false)⟩,
       ⟨some 11, .pick (.t 7) (.c (.bool true)) (.t 10), none⟩,
       ⟨some 3, .mv (.t 11), none⟩]) (
     (.cond (.t 3) (
      (.seq (
       .region [] [
         ⟨some 2, .mv (.c (.int .i64 11)), none⟩]) (
       .ret))) (
      (.seq (
       .region [] [
         ⟨some 13, .fieldAddr 1 (.t 1), none⟩,
         ⟨some 14, .load true 4 (.t 13), none⟩,
         ⟨some 15, .call 0 (.c (.fn 33 [])) [(.t 14)], none⟩,
         ⟨some 16, .not (.t 15), none⟩,
         ⟨some 17, .mv (.t 16), none⟩,
         ⟨some 18, .fieldAddr 5 (.t 1), some (17, false)⟩,
         ⟨some 19, .load true 4 (.t 18), some (17, false)⟩,
         ⟨some 20, .call 0 (.c (.fn 33 [])) [(.t 19)], some (17, false)⟩,
         ⟨some 21, .not (.t 20), some (17, false)⟩,
         ⟨some 22, .pick (.t 17) (.c (.bool true)) (.t 21), none⟩,
         ⟨some 12, .mv (.t 22), none⟩]) (
       (.cond (.t 12) (
        (.seq (
         .region [] [
           ⟨some 2, .mv (.c (.int .i64 2)), none⟩]) (
         .ret))) (
        (.seq (
         .region [] [
           ⟨some 24, .fieldAddr 1 (.t 1), none⟩,
           ⟨some 25, .fieldAddr 2 (.t 24), none⟩,
           ⟨some 26, .load false 1 (.t 25), none⟩,
           ⟨some 27, .fieldAddr 5 (.t 1), none⟩,
           ⟨some 28, .fieldAddr 2 (.t 27), none⟩,
           ⟨some 29, .load false 1 (.t 28), none⟩,
           ⟨some 30, .bin .neq (.t 26) (.t 29), none⟩,
           ⟨some 31, .mv (.t 30), none⟩,
           ⟨some 32, .fieldAddr 0 (.t 1), some (31, false)⟩,
           ⟨some 33, .load false 1 (.t 32), some (31, false)⟩,
           ⟨some 34, .call 0 (.c (.fn 34 [])) [(.t 33)], some (31, false)⟩,
           ⟨some 35, .mv (.t 34), some (31, false)⟩,
           ⟨some 36, .fieldAddr 1 (.t 1), some (35, true)⟩,
           ⟨some 37, .fieldAddr 3 (.t 36), some (35, true)⟩,
           ⟨some 38, .load false 1 (.t 37), some (35, true)⟩,
           ⟨some 39, .fieldAddr 5 (.t 1), some (35, true)⟩,
           ⟨some 40, .fieldAddr 3 (.t 39), some (35, true)⟩,
           ⟨some 41, .load false 1 (.t 40), some (35, true)⟩,
           ⟨some 42, .bin .neq (.t 38) (.t 41), some (35, true)⟩,
           ⟨some 43, .pick (.t 35) (.t 42) (.c (.bool false)), some (31, false)⟩,
           ⟨some 44, .pick (.t 31) (.c (.bool true)) (.t 43), none⟩,
           ⟨some 23, .mv (.t 44), none⟩]) (
         (.cond (.t 23) (
          (.seq (
           .region [] [
             ⟨some 2, .mv (.c (.int .i64 23)), none⟩]) (
           .ret))) (
          (.seq (
           .region [] [
             ⟨some 46, .fieldAddr 1 (.t 1), none⟩,
             ⟨some 47, .load true 4 (.t 46), none⟩,
             ⟨some 48, .fieldAddr 5 (.t 1), none⟩,
             ⟨some 49, .load true 4 (.t 48), none⟩,
             ⟨some 50, .call 0 (.c (.fn 15 [])) [(.t 47), (.t 49)], none⟩,
             ⟨some 51, .bin .geq (.t 50) (.c (.int .i64 0)), none⟩,
             ⟨some 45, .mv (.t 51), none⟩]) (
           (.cond (.t 45) (
            (.seq (
             .region [] [
               ⟨some 2, .mv (.c (.int .i64 25)), none⟩]) (
             .ret))) (
            .skip))))))))))))))))))) (
   (.seq (
    .region [] [
      ⟨some 2, .mv (.c (.int .i64 0)), none⟩]) (
    .ret))))))⟩

def a13 : AFunc := ⟨[.cell 2 true 9],
 (.seq (
  .region [] [
    ⟨some 1, .box 1 (.t 0), none⟩,
    ⟨some 2, .alloc 2 [(.int .i64 0), (.int .i64 0), (.int .i64 0), (.int .i64 0), (.int .i64 0), (.int .i64 0), (.int .i64 0), (.int .i64 0), (.int .i64 0)], none⟩]) (
  (.seq (
   .region [] [
     ⟨some 3, .fieldAddr 0 (.t 1), none⟩,
     ⟨some 4, .load false 1 (.t 3), none⟩,
     ⟨some 5, .fieldAddr 1 (.t 1), none⟩,
     ⟨some 6, .load true 4 (.t 5), none⟩,
     ⟨some 7, .call 0 (.c (.fn 16 [])) [(.t 6)], none⟩,
     ⟨some 8, .fieldAddr 5 (.t 1), none⟩,
     ⟨some 9, .load true 4 (.t 8), none⟩,
     ⟨some 10, .call 0 (.c (.fn 16 [])) [(.t 9)], none⟩,
     ⟨some 11, .build [(.int .i64 0), (.int .i64 0), (.int .i64 0), (.int .i64 0), (.int .i64 0), (.int .i64 0), (.int .i64 0), (.int .i64 0), (.int .i64 0)] [(0, 1, (.t 4)), (1, 4, (.t 7)), (5, 4, (.t 10))], none⟩,
     ⟨none, .store 9 (.t 2) (.t 11), none⟩]) (
   .ret))))⟩

def a14 : AFunc := ⟨[.tmp 2],
 (.seq (
  .region [] [
    ⟨some 1, .box 1 (.t 0), none⟩,
    ⟨some 2, .mv (.c (.int .i64 0)), none⟩]) (
  (.seq (
   (.seq (
    .region [] [
      ⟨some 3, .fieldAddr 0 (.t 1), none⟩,
      ⟨some 4, .load false 1 (.t 3), none⟩,
      ⟨some 5, .bin .lss (.t 4) (.c (.int .i64 1)), none⟩,
      ⟨some 6, .mv (.t 5), none⟩,
      ⟨some 7, .fieldAddr 0 (.t 1), some (6, false)⟩,
      ⟨some 8, .load false 1 (.t 7), some (6, false)⟩,
      ⟨some 9, .bin .gtr (.t 8) (.c (.int .i64 7)), some (6, false)⟩,
      ⟨some 10, .pick (.t 6) (.c (.bool true)) (.t 9), none⟩]) (
    (.cond (.t 10) (
     (.seq (
      .region [] [
        ⟨some 2, .mv (.c (.int .i64 11)), none⟩]) (
      .ret))) (
     .skip))))) (
   (.seq (
    (.seq (
     .region [] [
       ⟨some 11, .fieldAddr 1 (.t 1), none⟩,
       ⟨some 12, .load true 4 (.t 11), none⟩,
       ⟨some 13, .call 0 (.c (.fn 35 [])) [(.t 12)], none⟩,
       ⟨some 14, .not (.t 13), none⟩,
       ⟨some 15, .mv (.t 14), none⟩,
       ⟨some 16, .fieldAddr 5 (.t 1), some (15, false)⟩,
       ⟨some 17, .load true 4 (.t 16), some (15, false)⟩,
       ⟨some 18, .call 0 (.c (.fn 35 [])) [(.t 17)], some (15, false)⟩,
       ⟨some 19, .not (.t 18), some (15, false)⟩,
       ⟨some 20, .pick (.t 15) (.c (.bool true)) (.t 19), none⟩]) (
     (.cond (.t 20) (
      (.seq (
       .region [] [
         ⟨some 2, .mv (.c (.int .i64 2)), none⟩]) (
       .ret))) (
      .skip))))) (
    (.seq (
     (.seq (
      .region [] [
        ⟨some 21, .fieldAddr 1 (.t 1), none⟩,
        ⟨some 22, .fieldAddr 2 (.t 21), none⟩,
        ⟨some 23, .load false 1 (.t 22), none⟩,
        ⟨some 24, .fieldAddr 5 (.t 1), none⟩,
        ⟨some 25, .fieldAddr 2 (.t 24), none⟩,
        ⟨some 26, .load false 1 (.t 25), none⟩,
        ⟨some 27, .bin .neq (.t 23) (.t 26), none⟩,
        ⟨some 28, .mv (.t 27), none⟩,
        ⟨some 29, .fieldAddr 0 (.t 1), some (28, false)⟩,
        ⟨some 30, .load false 1 (.t 29), some (28, false)⟩,
        ⟨some 31, .bin .eql (.t 30) (.c (.int .i64 1)), some (28, false)⟩,
        ⟨some 32, .mv (.t 31), some (28, false)⟩,
        ⟨some 33, .fieldAddr 0 (.t 1), some (32, false)⟩,
        ⟨some 34, .load false 1 (.t 33), some (32, false)⟩,
        ⟨some 35, .bin .eql (.t 34) (.c (.int .i64 7)), some (32, false)⟩,
        ⟨some 36, .pick (.t 32) (.c (.bool true)) (.t 35), some (28, false)⟩,
        ⟨some 37, .mv (.t 36), some (28, false)⟩,
        ⟨some 38, .fieldAddr 1 (.t 1), some (37, true)⟩,
        ⟨some 39, .fieldAddr 3 (.t 38), some (37, true)⟩,
        ⟨some 40, .load false 1 (.t 39), some (37, true)⟩,
        ⟨some 41, .fieldAddr 5 (.t 1), some (37, true)⟩,
        ⟨some 42, .fieldAddr 3 (.t 41), some (37, true)⟩,
        ⟨some 43, .load false 1 (.t 42), some (37, true)⟩,
        ⟨some 44, .bin .neq (.t 40) (.t 43), some (37, true)⟩,
        ⟨some 45, .pick (.t 37) (.t 44) (.c (.bool false)), some (28, false)⟩,
        ⟨some 46, .pick (.t 28) (.c (.bool true)) (.t 45), none⟩]) (
      (.cond (.t 46) (
       (.seq (
        .region [] [
          ⟨some 2, .mv (.c (.int .i64 23)), none⟩]) (
        .ret))) (
       .skip))))) (
     (.seq (
      (.seq (
       .region [] [
         ⟨some 47, .fieldAddr 1 (.t 1), none⟩,
         ⟨some 48, .load true 4 (.t 47), none⟩,
         ⟨some 49, .fieldAddr 5 (.t 1), none⟩,
         ⟨some 50, .load true 4 (.t 49), none⟩,
         ⟨some 51, .call 0 (.c (.fn 17 [])) [(.t 48), (.t 50)], none⟩,
         ⟨some 52, .bin .geq (.t 51) (.c (.int .i64 0)), none⟩]) (
       (.cond (.t 52) (
        (.seq (
         .region [] [
           ⟨some 2, .mv (.c (.int .i64 25)), none⟩]) (
         .ret))) (
        .skip))))) (
      (.seq (
       .region [] [
         ⟨some 2, .mv (.c (.int .i64 0)), none⟩]) (
       .ret))))))))))))⟩

def a15 : AFunc := ⟨[.tmp 4],
 (.seq (
  .region [] [
    ⟨some 2, .box 1 (.t 0), none⟩,
    ⟨some 3, .box 2 (.t 1), none⟩,
    ⟨some 4, .mv (.c (.int .i64 0)), none⟩]) (
  (.seq (
   .region [] [
     ⟨some 5, .fieldAddr 0 (.t 2), none⟩,
     ⟨some 6, .load false 1 (.t 5), none⟩,
     ⟨some 7, .fieldAddr 0 (.t 3), none⟩,
     ⟨some 8, .load false 1 (.t 7), none⟩,
     ⟨some 9, .call 0 (.c (.fn 37 [])) [(.t 6), (.t 8)], none⟩,
     ⟨some 10, .fieldAddr 1 (.t 2), none⟩,
     ⟨some 11, .load false 1 (.t 10), none⟩,
     ⟨some 12, .fieldAddr 1 (.t 3), none⟩,
     ⟨some 13, .load false 1 (.t 12), none⟩,
     ⟨some 14, .call 0 (.c (.fn 37 [])) [(.t 11), (.t 13)], none⟩,
     ⟨some 15, .lit 1 [(.int .i64 0)] 2 [(0, 1, (.t 9)), (1, 1, (.t 14))], none⟩,
     ⟨some 16, .call 0 (.c (.fn 36 [])) [(.t 15)], none⟩,
     ⟨some 4, .mv (.t 16), none⟩]) (
   .ret))))⟩

def a16 : AFunc := ⟨[.cell 2 true 4],
 (.seq (
  .region [] [
    ⟨some 1, .box 1 (.t 0), none⟩,
    ⟨some 2, .alloc 2 [(.int .i64 0), (.int .i64 0), (.int .i64 0), (.int .i64 0)], none⟩]) (
  (.seq (
   .region [] [
     ⟨some 3, .fieldAddr 0 (.t 1), none⟩,
     ⟨some 4, .load false 1 (.t 3), none⟩,
     ⟨some 5, .fieldAddr 1 (.t 1), none⟩,
     ⟨some 6, .load false 1 (.t 5), none⟩,
     ⟨some 7, .fieldAddr 2 (.t 1), none⟩,
     ⟨some 8, .load false 1 (.t 7), none⟩,
     ⟨some 9, .fieldAddr 3 (.t 1), none⟩,
     ⟨some 10, .load false 1 (.t 9), none⟩,
     ⟨some 11, .build [(.int .i64 0), (.int .i64 0), (.int .i64 0), (.int .i64 0)] [(0, 1, (.t 4)), (1, 1, (.t 6)), (2, 1, (.t 8)), (3, 1, (.t 10))], none⟩,
     ⟨none, .store 4 (.t 2) (.t 11), none⟩]) (
   .ret))))⟩

def a17 : AFunc := ⟨[.tmp 4],
 (.seq (
  .region [] [
    ⟨some 2, .box 1 (.t 0), none⟩,
    ⟨some 3, .box 2 (.t 1), none⟩,
    ⟨some 4, .mv (.c (.int .i64 0)), none⟩]) (
  (.seq (
   (.seq (
    .region [] [
      ⟨some 5, .fieldAddr 0 (.t 2), none⟩,
      ⟨some 6, .load false 1 (.t 5), none⟩,
      ⟨some 7, .fieldAddr 0 (.t 3), none⟩,
      ⟨some 8, .load false 1 (.t 7), none⟩,
      ⟨some 9, .bin .lss (.t 6) (.t 8), none⟩,
      ⟨some 10, .mv (.t 9), none⟩,
      ⟨some 11, .fieldAddr 0 (.t 2), some (10, false)⟩,
      ⟨some 12, .load false 1 (.t 11), some (10, false)⟩,
      ⟨some 13, .fieldAddr 0 (.t 3), some (10, false)⟩,
      ⟨some 14, .load false 1 (.t 13), some (10, false)⟩,
      ⟨some 15, .bin .eql (.t 12) (.t 14), some (10, false)⟩,
      ⟨some 16, .mv (.t 15), some (10, false)⟩,
      ⟨some 17, .fieldAddr 1 (.t 2), some (16, true)⟩,
      ⟨some 18, .load false 1 (.t 17), some (16, true)⟩,
      ⟨some 19, .fieldAddr 1 (.t 3), some (16, true)⟩,
      ⟨some 20, .load false 1 (.t 19), some (16, true)⟩,
      ⟨some 21, .bin .lss (.t 18) (.t 20), some (16, true)⟩,
      ⟨some 22, .pick (.t 16) (.t 21) (.c (.bool false)), some (10, false)⟩,
      ⟨some 23, .pick (.t 10) (.c (.bool true)) (.t 22), none⟩]) (
    (.cond (.t 23) (
     (.seq (
      .region [] [
        ⟨some 4, .mv (.c (.int .i64 (-1))), none⟩]) (
      .ret))) (
     .skip))))) (
   (.seq (
    (.seq (
     .region [] [
       ⟨some 24, .fieldAddr 0 (.t 2), none⟩,
       ⟨some 25, .load false 1 (.t 24), none⟩,
       ⟨some 26, .fieldAddr 0 (.t 3), none⟩,
       ⟨some 27, .load false 1 (.t 26), none⟩,
       ⟨some 28, .bin .eql (.t 25) (.t 27), none⟩,
       ⟨some 29, .mv (.t 28), none⟩,
       ⟨some 30, .fieldAddr 1 (.t 2), some (29, true)⟩,
       ⟨some 31, .load false 1 (.t 30), some (29, true)⟩,
       ⟨some 32, .fieldAddr 1 (.t 3), some (29, true)⟩,
       ⟨some 33, .load false 1 (.t 32), some (29, true)⟩,
       ⟨some 34, .bin .eql (.t 31) (.t 33), some (29, true)⟩,
       ⟨some 35, .pick (.t 29) (.t 34) (.c (.bool false)), none⟩]) (
     (.cond (.t 35) (
      (.seq (
       .region [] [
         ⟨some 4, .mv (.c (.int .i64 0)), none⟩]) (
       .ret))) (
      .skip))))) (
    (.seq (
     .region [] [
       ⟨some 4, .mv (.c (.int .i64 1)), none⟩]) (
     .ret))))))))⟩

def a18 : AFunc := ⟨[.tmp 4],
 (.seq (
  .region [] [
    ⟨some 2, .box 1 (.t 0), none⟩,
    ⟨some 3, .box 2 (.t 1), none⟩,
    ⟨some 4, .mv (.c (.bool false)), none⟩]) (
  (.seq (
   (.seq (
    .region [] [
      ⟨some 7, .load true 9 (.t 2), none⟩,
      ⟨some 8, .load true 9 (.t 3), none⟩,
      ⟨some 9, .call 0 (.c (.fn 38 [])) [(.t 7), (.t 8)], none⟩,
      ⟨some 10, .not (.t 9), none⟩]) (
    (.cond (.t 10) (
     (.seq (
      .region [] [
        ⟨some 4, .mv (.c (.bool false)), none⟩]) (
      .ret))) (
     .skip))))) (
   (.seq (
    .region [] [
      ⟨some 11, .fieldAddr 5 (.t 2), none⟩,
      ⟨some 12, .load true 4 (.t 11), none⟩,
      ⟨some 13, .fieldAddr 1 (.t 3), none⟩,
      ⟨some 14, .load true 4 (.t 13), none⟩,
      ⟨some 15, .call 0 (.c (.fn 17 [])) [(.t 12), (.t 14)], none⟩,
      ⟨some 16, .bin .leq (.t 15) (.c (.int .i64 0)), none⟩,
      ⟨some 17, .mv (.t 16), none⟩,
      ⟨some 18, .fieldAddr 5 (.t 3), some (17, false)⟩,
      ⟨some 19, .load true 4 (.t 18), some (17, false)⟩,
      ⟨some 20, .fieldAddr 1 (.t 2), some (17, false)⟩,
      ⟨some 21, .load true 4 (.t 20), some (17, false)⟩,
      ⟨some 22, .call 0 (.c (.fn 17 [])) [(.t 19), (.t 21)], some (17, false)⟩,
      ⟨some 23, .bin .leq (.t 22) (.c (.int .i64 0)), some (17, false)⟩,
      ⟨some 24, .pick (.t 17) (.c (.bool true)) (.t 23), none⟩,
      ⟨some 5, .mv (.t 24), none⟩]) (
    (.seq (
     .region [] [
       ⟨some 25, .fieldAddr 5 (.t 2), none⟩,
       ⟨some 26, .load true 4 (.t 25), none⟩,
       ⟨some 27, .fieldAddr 1 (.t 3), none⟩,
       ⟨some 28, .load true 4 (.t 27), none⟩,
       ⟨some 29, .call 0 (.c (.fn 17 [])) [(.t 26), (.t 28)], none⟩,
       ⟨some 30, .bin .lss (.t 29) (.c (.int .i64 0)), none⟩,
       ⟨some 31, .mv (.t 30), none⟩,
       ⟨some 32, .fieldAddr 5 (.t 3), some (31, false)⟩,
       ⟨some 33, .load true 4 (.t 32), some (31, false)⟩,
       ⟨some 34, .fieldAddr 1 (.t 2), some (31, false)⟩,
       ⟨some 35, .load true 4 (.t 34), some (31, false)⟩,
       ⟨some 36, .call 0 (.c (.fn 17 [])) [(.t 33), (.t 35)], some (31, false)⟩,
       ⟨some 37, .bin .lss (.t 36) (.c (.int .i64 0)), some (31, false)⟩,
       ⟨some 38, .pick (.t 31) (.c (.bool true)) (.t 37), none⟩,
       ⟨some 6, .mv (.t 38), none⟩]) (
     (.seq (
      (.seq (
       .region [] [
         ⟨some 39, .fieldAddr 0 (.t 2), none⟩,
         ⟨some 40, .load false 1 (.t 39), none⟩,
         ⟨some 41, .call 0 (.c (.fn 39 [])) [(.t 40)], none⟩]) (
       (.block 0 (
        (.seq (
         .region [] [
           ⟨some 43, .bin .eql (.t 41) (.c (.int .i64 1)), none⟩,
           ⟨some 42, .mv (.t 43), none⟩]) (
         (.cond (.t 42) (
          (.seq (
           .region [] [
             ⟨some 44, .mv (.t 5), none⟩,
             ⟨some 45, .not (.t 44), none⟩,
             ⟨some 46, .mv (.t 45), none⟩,
             ⟨some 47, .load true 9 (.t 2), some (46, true)⟩,
             ⟨some 48, .load true 9 (.t 3), some (46, true)⟩,
             ⟨some 49, .call 0 (.c (.fn 40 [])) [(.t 47), (.t 48)], some (46, true)⟩,
             ⟨some 50, .load true 9 (.t 3), some (46, true)⟩,
             ⟨some 51, .load true 9 (.t 2), some (46, true)⟩,
             ⟨some 52, .call 0 (.c (.fn 40 [])) [(.t 50), (.t 51)], some (46, true)⟩,
             ⟨some 53, .eqb false (.t 49) (.t 52), some (46, true)⟩,
             ⟨some 54, .pick (.t 46) (.t 53) (.c (.bool false)), none⟩,
             ⟨some 4, .mv (.t 54), none⟩]) (
           .ret))) (
          (.seq (
           (.seq (
            .region [] [
              ⟨some 56, .bin .eql (.t 41) (.c (.int .i64 3)), none⟩,
              ⟨some 55, .mv (.t 56), none⟩]) (
            (.cond (.t 55) (
             .skip) (
             .region [] [
               ⟨some 57, .bin .eql (.t 41) (.c (.int .i64 5)), none⟩,
               ⟨some 55, .mv (.t 57), none⟩]))))) (
           (.cond (.t 55) (
            (.seq (
             .region [] [
               ⟨some 58, .mv (.t 6), none⟩,
               ⟨some 59, .not (.t 58), none⟩,
               ⟨some 4, .mv (.t 59), none⟩]) (
             .ret))) (
            .skip))))))))))))) (
      (.seq (
       .region [] [
         ⟨some 60, .mv (.t 5), none⟩,
         ⟨some 61, .not (.t 60), none⟩,
         ⟨some 4, .mv (.t 61), none⟩]) (
       .ret))))))))))))⟩

def a19 : AFunc := ⟨[.tmp 4],
 (.seq (
  .region [] [
    ⟨some 2, .box 1 (.t 0), none⟩,
    ⟨some 3, .box 2 (.t 1), none⟩,
    ⟨some 4, .mv (.c (.bool false)), none⟩]) (
  (.seq (
   (.seq (
    .region [] [
      ⟨some 8, .load true 9 (.t 2), none⟩,
      ⟨some 9, .load true 9 (.t 3), none⟩,
      ⟨some 10, .call 0 (.c (.fn 41 [])) [(.t 8), (.t 9)], none⟩,
      ⟨some 11, .not (.t 10), none⟩]) (
    (.cond (.t 11) (
     (.seq (
      .region [] [
        ⟨some 4, .mv (.c (.bool false)), none⟩]) (
      .ret))) (
     .skip))))) (
   (.seq (
    .region [] [
      ⟨some 5, .mv (.c (.fn 42 [])), none⟩]) (
    (.seq (
     .region [] [
       ⟨some 6, .mv (.c (.fn 44 [])), none⟩]) (
     (.seq (
      .region [] [
        ⟨some 12, .mv (.t 5), none⟩,
        ⟨some 13, .mv (.t 5), none⟩,
        ⟨some 14, .mv (.t 6), none⟩,
        ⟨some 15, .mv (.t 6), none⟩,
        ⟨some 16, .mv (.t 5), none⟩,
        ⟨some 17, .mv (.t 6), none⟩,
        ⟨some 18, .build [.nilfn, .nilfn, .nilfn, .nilfn, .nilfn, .nilfn, .nilfn] [(0, 1, (.c (.fn 46 []))), (1, 1, (.t 12)), (2, 1, (.t 13)), (3, 1, (.t 14)), (4, 1, (.t 15)), (5, 1, (.t 16)), (6, 1, (.t 17))], none⟩,
        ⟨some 7, .alloc 3 [.nilfn, .nilfn, .nilfn, .nilfn, .nilfn, .nilfn, .nilfn], none⟩,
        ⟨none, .store 7 (.t 7) (.t 18), none⟩]) (
      (.seq (
       .region [] [
         ⟨some 19, .fieldAddr 0 (.t 2), none⟩,
         ⟨some 20, .load false 1 (.t 19), none⟩,
         ⟨some 21, .bin .sub (.t 20) (.c (.int .i64 1)), none⟩,
         ⟨some 22, .arrAddr 7 1 (.t 7) (.t 21), none⟩,
         ⟨some 23, .load false 1 (.t 22), none⟩,
         ⟨some 24, .load true 9 (.t 2), none⟩,
         ⟨some 25, .load true 9 (.t 3), none⟩,
         ⟨some 26, .call 0 (.t 23) [(.t 24), (.t 25)], none⟩,
         ⟨some 4, .mv (.t 26), none⟩]) (
       .ret))))))))))))⟩

def a20 : AFunc := ⟨[.tmp 2, .tmp 3],
 (.seq (
  .region [] [
    ⟨some 2, .mv (.c (.int .i64 0)), none⟩,
    ⟨some 3, .mv (.c (.int .i64 0)), none⟩]) (
  (.seq (
   (.seq (
    .region [] [
      ⟨some 7, .mv (.t 0), none⟩,
      ⟨some 8, .len (.t 7), none⟩,
      ⟨some 9, .bin .gtr (.t 8) (.c (.int .i64 4096)), none⟩]) (
    (.cond (.t 9) (
     (.seq (
      .region [] [
        ⟨some 2, .mv (.c (.int .i64 4096)), none⟩,
        ⟨some 3, .mv (.c (.int .i64 9)), none⟩]) (
      .ret))) (
     .skip))))) (
   (.seq (
    (.seq (
     .region [] [
       ⟨some 10, .mv (.t 0), none⟩,
       ⟨some 11, .len (.t 10), none⟩,
       ⟨some 12, .mv (.c (.int .i64 0)), none⟩]) (
     (.block 0 (
      (.loop (
       (.seq (
        .region [] [
          ⟨some 13, .bin .lss (.t 12) (.t 11), none⟩]) (
        (.seq (
         (.cond (.t 13) (
          .skip) (
          .exit 0))) (
         (.seq (
          (.block 1 (
           (.seq (
            .region [] [
              ⟨some 14, .mv (.t 12), none⟩,
              ⟨some 15, .elemAddr 9 (.t 10) (.t 12), none⟩,
              ⟨some 16, .load true 9 (.t 15), none⟩,
              ⟨some 5, .alloc 1 [(.int .i64 0), (.int .i64 0), (.int .i64 0), (.int .i64 0), (.int .i64 0), (.int .i64 0), (.int .i64 0), (.int .i64 0), (.int .i64 0)], none⟩,
              ⟨some 4, .mv (.t 14), none⟩,
              ⟨none, .store 9 (.t 5) (.t 16), none⟩]) (
            (.seq (
             (.seq (
              .region [] [
                ⟨some 17, .load true 9 (.t 5), none⟩,
                ⟨some 18, .call 0 (.c (.fn 12 [])) [(.t 17)], none⟩,
                ⟨some 6, .mv (.t 18), none⟩]) (
              (.seq (
               .region [] [
                 ⟨some 19, .mv (.t 6), none⟩,
                 ⟨some 20, .bin .neq (.t 19) (.c (.int .i64 0)), none⟩]) (
               (.cond (.t 20) (
                (.seq (
                 .region [] [
                   ⟨some 21, .mv (.t 4), none⟩,
                   ⟨some 22, .mv (.t 6), none⟩,
                   ⟨some 2, .mv (.t 21), none⟩,
                   ⟨some 3, .mv (.t 22), none⟩]) (
                 .ret))) (
                .skip))))))) (
             (.seq (
              .region [] [
                ⟨some 23, .mv (.t 0), none⟩,
                ⟨some 24, .mv (.t 4), none⟩,
                ⟨some 25, .sub 9 (.t 23) none (some (.t 24)) none, none⟩,
                ⟨some 26, .mkfn 48 [(.t 5)], none⟩,
                ⟨some 27, .call 0 (.c (.fn 47 [])) [(.t 25), (.t 26)], none⟩]) (
              (.cond (.t 27) (
               (.seq (
                .region [] [
                  ⟨some 28, .mv (.t 4), none⟩,
                  ⟨some 2, .mv (.t 28), none⟩,
                  ⟨some 3, .mv (.c (.int .i64 26)), none⟩]) (
                .ret))) (
               .skip))))))))))) (
          .region [] [
            ⟨some 29, .bin .add (.t 12) (.c (.int .i64 1)), none⟩,
            ⟨some 12, .mv (.t 29), none⟩]))))))))))))) (
    (.seq (
     .region [] [
       ⟨some 2, .mv (.c (.int .i64 (-1))), none⟩,
       ⟨some 3, .mv (.c (.int .i64 0)), none⟩]) (
     .ret))))))))⟩

def a21 : AFunc := ⟨[.tmp 2],
 (.seq (
  .region [] [
    ⟨some 2, .mv (.c .nilsl), none⟩]) (
  (.seq (
   .region [] [
     ⟨some 3, .mv (.c .nilsl), none⟩]) (
   (.seq (
    (.seq (
     .region [] [
       ⟨some 4, .mv (.c (.int .i64 0)), none⟩]) (
     (.block 0 (
      (.loop (
       (.seq (
        (.seq (
         .region [] [
           ⟨some 5, .mv (.t 4), none⟩,
           ⟨some 6, .mv (.t 0), none⟩,
           ⟨some 7, .len (.t 6), none⟩,
           ⟨some 8, .bin .lss (.t 5) (.t 7), none⟩]) (
         (.cond (.t 8) (
          .skip) (
          .exit 0))))) (
        (.seq (
         (.block 1 (
          .region [] [
            ⟨some 11, .mv (.t 3), none⟩,
            ⟨some 12, .mv (.t 0), none⟩,
            ⟨some 13, .mv (.t 4), none⟩,
            ⟨some 14, .elemAddr 9 (.t 12) (.t 13), none⟩,
            ⟨some 15, .load true 9 (.t 14), none⟩,
            ⟨some 16, .call 0 (.c (.fn 13 [])) [(.t 15)], none⟩,
            ⟨some 17, .lit 9 [(.int .i64 0), (.int .i64 0), (.int .i64 0), (.int .i64 0), (.int .i64 0), (.int .i64 0), (.int .i64 0), (.int .i64 0), (.int .i64 0)] 1 [(0, 9, (.t 16))], none⟩,
            ⟨some 18, .app 1 9 72 (.t 11) (.t 17), none⟩,
            ⟨some 3, .mv (.t 18), none⟩]))) (
         .region [] [
           ⟨some 9, .mv (.t 4), none⟩,
           ⟨some 10, .bin .add (.t 9) (.c (.int .i64 1)), none⟩,
           ⟨some 4, .mv (.t 10), none⟩]))))))))))) (
    (.seq (
     .region [] [
       ⟨some 19, .mv (.t 3), none⟩,
       ⟨some 2, .mv (.t 19), none⟩]) (
     .ret))))))))⟩

def a22 : AFunc := ⟨[.tmp 2, .tmp 3],
 (.seq (
  .region [] [
    ⟨some 2, .mv (.c (.int .i64 0)), none⟩,
    ⟨some 3, .mv (.c (.int .i64 0)), none⟩]) (
  (.seq (
   (.seq (
    .region [] [
      ⟨some 7, .mv (.t 0), none⟩,
      ⟨some 8, .len (.t 7), none⟩,
      ⟨some 9, .bin .gtr (.t 8) (.c (.int .i64 4096)), none⟩]) (
    (.cond (.t 9) (
     (.seq (
      .region [] [
        ⟨some 2, .mv (.c (.int .i64 4096)), none⟩,
        ⟨some 3, .mv (.c (.int .i64 9)), none⟩]) (
      .ret))) (
     .skip))))) (
   (.seq (
    (.seq (
     .region [] [
       ⟨some 4, .mv (.c (.int .i64 0)), none⟩]) (
     (.block 0 (
      (.loop (
       (.seq (
        (.seq (
         .region [] [
           ⟨some 10, .mv (.t 4), none⟩,
           ⟨some 11, .mv (.t 0), none⟩,
           ⟨some 12, .len (.t 11), none⟩,
           ⟨some 13, .bin .lss (.t 10) (.t 12), none⟩]) (
         (.cond (.t 13) (
          .skip) (
          .exit 0))))) (
        (.seq (
         (.block 1 (
          (.seq (
           (.seq (
            .region [] [
              ⟨some 16, .mv (.t 0), none⟩,
              ⟨some 17, .mv (.t 4), none⟩,
              ⟨some 18, .elemAddr 9 (.t 16) (.t 17), none⟩,
              ⟨some 19, .load true 9 (.t 18), none⟩,
              ⟨some 20, .call 0 (.c (.fn 14 [])) [(.t 19)], none⟩,
              ⟨some 5, .mv (.t 20), none⟩]) (
            (.seq (
             .region [] [
               ⟨some 21, .mv (.t 5), none⟩,
               ⟨some 22, .bin .neq (.t 21) (.c (.int .i64 0)), none⟩]) (
             (.cond (.t 22) (
              (.seq (
               .region [] [
                 ⟨some 23, .mv (.t 4), none⟩,
                 ⟨some 24, .mv (.t 5), none⟩,
                 ⟨some 2, .mv (.t 23), none⟩,
                 ⟨some 3, .mv (.t 24), none⟩]) (
               .ret))) (
              .skip))))))) (
           (.seq (
            .region [] [
              ⟨some 6, .mv (.c (.int .i64 0)), none⟩]) (
            (.block 2 (
             (.loop (
              (.seq (
               (.seq (
                .region [] [
                  ⟨some 25, .mv (.t 6), none⟩,
                  ⟨some 26, .mv (.t 4), none⟩,
                  ⟨some 27, .bin .lss (.t 25) (.t 26), none⟩]) (
                (.cond (.t 27) (
                 .skip) (
                 .exit 2))))) (
               (.seq (
                (.block 3 (
                 (.seq (
                  .region [] [
                    ⟨some 30, .mv (.t 0), none⟩,
                    ⟨some 31, .mv (.t 4), none⟩,
                    ⟨some 32, .elemAddr 9 (.t 30) (.t 31), none⟩,
                    ⟨some 33, .load true 9 (.t 32), none⟩,
                    ⟨some 34, .mv (.t 0), none⟩,
                    ⟨some 35, .mv (.t 6), none⟩,
                    ⟨some 36, .elemAddr 9 (.t 34) (.t 35), none⟩,
                    ⟨some 37, .load true 9 (.t 36), none⟩,
                    ⟨some 38, .call 0 (.c (.fn 18 [])) [(.t 33), (.t 37)], none⟩]) (
                  (.cond (.t 38) (
                   (.seq (
                    .region [] [
                      ⟨some 39, .mv (.t 4), none⟩,
                      ⟨some 2, .mv (.t 39), none⟩,
                      ⟨some 3, .mv (.c (.int .i64 26)), none⟩]) (
                    .ret))) (
                   .skip))))))) (
                .region [] [
                  ⟨some 28, .mv (.t 6), none⟩,
                  ⟨some 29, .bin .add (.t 28) (.c (.int .i64 1)), none⟩,
                  ⟨some 6, .mv (.t 29), none⟩]))))))))))))))) (
         .region [] [
           ⟨some 14, .mv (.t 4), none⟩,
           ⟨some 15, .bin .add (.t 14) (.c (.int .i64 1)), none⟩,
           ⟨some 4, .mv (.t 15), none⟩]))))))))))) (
    (.seq (
     .region [] [
       ⟨some 2, .mv (.c (.int .i64 (-1))), none⟩,
       ⟨some 3, .mv (.c (.int .i64 0)), none⟩]) (
     .ret))))))))⟩

def a23 : AFunc := ⟨[.tmp 0],
 (.seq (
  .region [] [
    ⟨some 0, .mv (.c .nilsl), none⟩]) (
  (.seq (
   .region [] [
     ⟨some 1, .lit 1 [(.str ⟨#[]⟩)] 7 [(0, 1, (.c (.str ⟨#[115, 108, 117, 114]⟩))), (1, 1, (.c (.str ⟨#[99, 114, 101, 115, 99, 101, 110, 100, 111]⟩))), (2, 1, (.c (.str ⟨#[100, 105, 109, 105, 110, 117, 101, 110, 100, 111]⟩))), (3, 1, (.c (.str ⟨#[56, 118, 97]⟩))), (4, 1, (.c (.str ⟨#[56, 118, 98]⟩))), (5, 1, (.c (.str ⟨#[112, 101, 100, 97, 108]⟩))), (6, 1, (.c (.str ⟨#[116, 114, 105, 108, 108]⟩)))], none⟩,
     ⟨some 0, .mv (.t 1), none⟩]) (
   .ret))))⟩

def a24 : AFunc := ⟨[.tmp 2, .tmp 3],
 (.seq (
  .region [] [
    ⟨some 2, .mv (.c (.int .i64 0)), none⟩,
    ⟨some 3, .mv (.c (.int .i64 0)), none⟩]) (
  (.seq (
   (.seq (
    .region [] [
      ⟨some 6, .call 0 (.c (.fn 49 [])) [], none⟩,
      ⟨some 7, .mv (.c (.int .i64 0)), none⟩]) (
    (.block 0 (
     (.loop (
      (.seq (
       .region [] [
         ⟨some 8, .bin .lss (.t 7) (.c (.int .i64 7)), none⟩]) (
       (.seq (
        (.cond (.t 8) (
         .skip) (
         .exit 0))) (
        (.seq (
         (.block 1 (
          (.seq (
           .region [] [
             ⟨some 9, .mv (.t 7), none⟩,
             ⟨some 10, .idx 7 1 false (.t 6) (.t 7), none⟩,
             ⟨some 4, .mv (.t 9), none⟩,
             ⟨some 5, .mv (.t 10), none⟩]) (
           (.seq (
            .region [] [
              ⟨some 11, .mv (.t 5), none⟩,
              ⟨some 12, .mv (.t 0), none⟩,
              ⟨some 13, .bin .eql (.t 11) (.t 12), none⟩]) (
            (.cond (.t 13) (
             (.seq (
              .region [] [
                ⟨some 14, .mv (.t 4), none⟩,
                ⟨some 15, .bin .add (.t 14) (.c (.int .i64 1)), none⟩,
                ⟨some 2, .mv (.t 15), none⟩,
                ⟨some 3, .mv (.c (.int .i64 0)), none⟩]) (
              .ret))) (
             .skip))))))))) (
         .region [] [
           ⟨some 16, .bin .add (.t 7) (.c (.int .i64 1)), none⟩,
           ⟨some 7, .mv (.t 16), none⟩]))))))))))))) (
   (.seq (
    .region [] [
      ⟨some 2, .mv (.c (.int .i64 0)), none⟩,
      ⟨some 3, .mv (.c (.int .i64 32)), none⟩]) (
    .ret))))))⟩

def a25 : AFunc := ⟨[.tmp 2],
 (.seq (
  .region [] [
    ⟨some 2, .mv (.c (.str ⟨#[]⟩)), none⟩]) (
  (.seq (
   (.seq (
    .region [] [
      ⟨some 3, .mv (.t 0), none⟩,
      ⟨some 4, .bin .lss (.t 3) (.c (.int .i64 1)), none⟩,
      ⟨some 5, .mv (.t 4), none⟩,
      ⟨some 6, .mv (.t 0), some (5, false)⟩,
      ⟨some 7, .bin .gtr (.t 6) (.c (.int .i64 7)), some (5, false)⟩,
      ⟨some 8, .pick (.t 5) (.c (.bool true)) (.t 7), none⟩]) (
    (.cond (.t 8) (
     (.seq (
      .region [] [
        ⟨some 2, .mv (.c (.str ⟨#[]⟩)), none⟩]) (
      .ret))) (
     .skip))))) (
   (.seq (
    .region [] [
      ⟨some 9, .call 0 (.c (.fn 49 [])) [], none⟩,
      ⟨some 10, .mv (.t 0), none⟩,
      ⟨some 11, .bin .sub (.t 10) (.c (.int .i64 1)), none⟩,
      ⟨some 12, .idx 7 1 false (.t 9) (.t 11), none⟩,
      ⟨some 2, .mv (.t 12), none⟩]) (
    .ret))))))⟩

def a26 : AFunc := ⟨[.tmp 6],
 (.seq (
  .region [] [
    ⟨some 4, .box 1 (.t 1), none⟩,
    ⟨some 5, .box 2 (.t 2), none⟩,
    ⟨some 6, .mv (.c .nilsl), none⟩]) (
  (.seq (
   .region [] [
     ⟨some 7, .mv (.t 0), none⟩,
     ⟨some 8, .mkfn 51 [(.t 4), (.t 5)], none⟩,
     ⟨some 9, .call 0 (.c (.fn 50 [])) [(.t 7), (.t 8)], none⟩,
     ⟨some 6, .mv (.t 9), none⟩]) (
   .ret))))⟩

def a27 : AFunc := ⟨[.tmp 4],
 (.seq (
  .region [] [
    ⟨some 3, .box 1 (.t 1), none⟩,
    ⟨some 4, .mv (.c .nilsl), none⟩]) (
  (.seq (
   .region [] [
     ⟨some 5, .mv (.t 0), none⟩,
     ⟨some 6, .mkfn 53 [(.t 3)], none⟩,
     ⟨some 7, .call 0 (.c (.fn 50 [])) [(.t 5), (.t 6)], none⟩,
     ⟨some 4, .mv (.t 7), none⟩]) (
   .ret))))⟩

def a28 : AFunc := ⟨[.tmp 4],
 (.seq (
  .region [] [
    ⟨some 2, .box 1 (.t 0), none⟩,
    ⟨some 3, .box 2 (.t 1), none⟩,
    ⟨some 4, .mv (.c (.bool false)), none⟩]) (
  (.seq (
   (.seq (
    .region [] [
      ⟨some 5, .fieldAddr 1 (.t 2), none⟩,
      ⟨some 6, .fieldAddr 2 (.t 5), none⟩,
      ⟨some 7, .load false 1 (.t 6), none⟩,
      ⟨some 8, .fieldAddr 2 (.t 3), none⟩,
      ⟨some 9, .load false 1 (.t 8), none⟩,
      ⟨some 10, .bin .neq (.t 7) (.t 9), none⟩,
      ⟨some 11, .mv (.t 10), none⟩,
      ⟨some 12, .fieldAddr 0 (.t 2), some (11, false)⟩,
      ⟨some 13, .load false 1 (.t 12), some (11, false)⟩,
      ⟨some 14, .bin .eql (.t 13) (.c (.int .i64 1)), some (11, false)⟩,
      ⟨some 15, .mv (.t 14), some (11, false)⟩,
      ⟨some 16, .fieldAddr 0 (.t 2), some (15, false)⟩,
      ⟨some 17, .load false 1 (.t 16), some (15, false)⟩,
      ⟨some 18, .bin .eql (.t 17) (.c (.int .i64 7)), some (15, false)⟩,
      ⟨some 19, .pick (.t 15) (.c (.bool true)) (.t 18), some (11, false)⟩,
      ⟨some 20, .mv (.t 19), some (11, false)⟩,
      ⟨some 21, .fieldAddr 1 (.t 2), some (20, true)⟩,
      ⟨some 22, .fieldAddr 3 (.t 21), some (20, true)⟩,
      ⟨some 23, .load false 1 (.t 22), some (20, true)⟩,
      ⟨some 24, .fieldAddr 3 (.t 3), some (20, true)⟩,
      ⟨some 25, .load false 1 (.t 24), some (20, true)⟩,
      ⟨some 26, .bin .neq (.t 23) (.t 25), some (20, true)⟩,
      ⟨some 27, .pick (.t 20) (.t 26) (.c (.bool false)), some (11, false)⟩,
      ⟨some 28, .pick (.t 11) (.c (.bool true)) (.t 27), none⟩]) (
    (.cond (.t 28) (
     (.seq (
      .region [] [
        ⟨some 4, .mv (.c (.bool false)), none⟩]) (
      .ret))) (
     .skip))))) (
   (.seq (
    .region [] [
      ⟨some 29, .fieldAddr 1 (.t 2), none⟩,
      ⟨some 30, .load true 4 (.t 29), none⟩,
      ⟨some 31, .load true 4 (.t 3), none⟩,
      ⟨some 32, .call 0 (.c (.fn 17 [])) [(.t 30), (.t 31)], none⟩,
      ⟨some 33, .bin .leq (.t 32) (.c (.int .i64 0)), none⟩,
      ⟨some 34, .mv (.t 33), none⟩,
      ⟨some 35, .load true 4 (.t 3), some (34, true)⟩,
      ⟨some 36, .fieldAddr 5 (.t 2), some (34, true)⟩,
      ⟨some 37, .load true 4 (.t 36), some (34, true)⟩,
      ⟨some 38, .call 0 (.c (.fn 17 [])) [(.t 35), (.t 37)], some (34, true)⟩,
      ⟨some 39, .bin .leq (.t 38) (.c (.int .i64 0)), some (34, true)⟩,
      ⟨some 40, .pick (.t 34) (.t 39) (.c (.bool false)), none⟩,
      ⟨some 4, .mv (.t 40), none⟩]) (
    .ret))))))⟩

def a29 : AFunc := ⟨[.tmp 4],
 (.seq (
  .region [] [
    ⟨some 3, .box 1 (.t 1), none⟩,
    ⟨some 4, .mv (.c (.int .i64 0)), none⟩]) (
  (.seq (
   (.seq (
    .region [] [
      ⟨some 7, .mv (.t 0), none⟩,
      ⟨some 8, .len (.t 7), none⟩,
      ⟨some 9, .mv (.c (.int .i64 0)), none⟩]) (
    (.block 0 (
     (.loop (
      (.seq (
       .region [] [
         ⟨some 10, .bin .lss (.t 9) (.t 8), none⟩]) (
       (.seq (
        (.cond (.t 10) (
         .skip) (
         .exit 0))) (
        (.seq (
         (.block 1 (
          (.seq (
           .region [] [
             ⟨some 11, .elemAddr 9 (.t 7) (.t 9), none⟩,
             ⟨some 12, .load true 9 (.t 11), none⟩,
             ⟨some 6, .alloc 2 [(.int .i64 0), (.int .i64 0), (.int .i64 0), (.int .i64 0), (.int .i64 0), (.int .i64 0), (.int .i64 0), (.int .i64 0), (.int .i64 0)], none⟩,
             ⟨none, .store 9 (.t 6) (.t 12), none⟩]) (
           (.seq (
            .region [] [
              ⟨some 13, .fieldAddr 0 (.t 6), none⟩,
              ⟨some 14, .load false 1 (.t 13), none⟩,
              ⟨some 15, .call 0 (.c (.fn 54 [])) [(.t 14)], none⟩,
              ⟨some 16, .bin .eql (.t 15) (.c (.int .i64 4)), none⟩,
              ⟨some 17, .mv (.t 16), none⟩,
              ⟨some 18, .load true 9 (.t 6), some (17, true)⟩,
              ⟨some 19, .load true 4 (.t 3), some (17, true)⟩,
              ⟨some 20, .call 0 (.c (.fn 52 [])) [(.t 18), (.t 19)], some (17, true)⟩,
              ⟨some 21, .pick (.t 17) (.t 20) (.c (.bool false)), none⟩]) (
            (.cond (.t 21) (
             (.seq (
              .region [] [
                ⟨some 22, .build [(.int .i64 0), (.int .i64 0)] [(0, 1, (.c (.int .i64 (-7)))), (1, 1, (.c (.int .i64 7)))], none⟩,
                ⟨some 23, .fieldAddr 0 (.t 6), none⟩,
                ⟨some 24, .load false 1 (.t 23), none⟩,
                ⟨some 25, .bin .sub (.t 24) (.c (.int .i64 4)), none⟩,
                ⟨some 26, .idx 2 1 false (.t 22) (.t 25), none⟩,
                ⟨some 4, .mv (.t 26), none⟩]) (
              .ret))) (
             .skip))))))))) (
         .region [] [
           ⟨some 27, .bin .add (.t 9) (.c (.int .i64 1)), none⟩,
           ⟨some 9, .mv (.t 27), none⟩]))))))))))))) (
   (.seq (
    .region [] [
      ⟨some 4, .mv (.c (.int .i64 0)), none⟩]) (
    .ret))))))⟩

def a30 : AFunc := ⟨[.tmp 4],
 (.seq (
  .region [] [
    ⟨some 3, .box 1 (.t 1), none⟩,
    ⟨some 4, .mv (.c (.int .i64 0)), none⟩]) (
  (.seq (
   (.seq (
    .region [] [
      ⟨some 5, .mv (.c (.int .i64 0)), none⟩]) (
    (.block 0 (
     (.loop (
      (.seq (
       (.seq (
        .region [] [
          ⟨some 6, .mv (.t 5), none⟩,
          ⟨some 7, .mv (.t 0), none⟩,
          ⟨some 8, .len (.t 7), none⟩,
          ⟨some 9, .bin .lss (.t 6) (.t 8), none⟩]) (
        (.cond (.t 9) (
         .skip) (
         .exit 0))))) (
       (.seq (
        (.block 1 (
         (.seq (
          .region [] [
            ⟨some 12, .mv (.t 0), none⟩,
            ⟨some 13, .mv (.t 5), none⟩,
            ⟨some 14, .elemAddr 9 (.t 12) (.t 13), none⟩,
            ⟨some 15, .fieldAddr 0 (.t 14), none⟩,
            ⟨some 16, .load false 1 (.t 15), none⟩,
            ⟨some 17, .bin .eql (.t 16) (.c (.int .i64 4)), none⟩,
            ⟨some 18, .mv (.t 17), none⟩,
            ⟨some 19, .mv (.t 0), some (18, false)⟩,
            ⟨some 20, .mv (.t 5), some (18, false)⟩,
            ⟨some 21, .elemAddr 9 (.t 19) (.t 20), some (18, false)⟩,
            ⟨some 22, .fieldAddr 0 (.t 21), some (18, false)⟩,
            ⟨some 23, .load false 1 (.t 22), some (18, false)⟩,
            ⟨some 24, .bin .eql (.t 23) (.c (.int .i64 5)), some (18, false)⟩,
            ⟨some 25, .pick (.t 18) (.c (.bool true)) (.t 24), none⟩,
            ⟨some 26, .mv (.t 25), none⟩,
            ⟨some 27, .mv (.t 0), some (26, true)⟩,
            ⟨some 28, .mv (.t 5), some (26, true)⟩,
            ⟨some 29, .elemAddr 9 (.t 27) (.t 28), some (26, true)⟩,
            ⟨some 30, .load true 9 (.t 29), some (26, true)⟩,
            ⟨some 31, .load true 4 (.t 3), some (26, true)⟩,
            ⟨some 32, .call 0 (.c (.fn 28 [])) [(.t 30), (.t 31)], some (26, true)⟩,
            ⟨some 33, .pick (.t 26) (.t 32) (.c (.bool false)), none⟩]) (
          (.cond (.t 33) (
           (.seq (
            .region [] [
              ⟨some 34, .mv (.t 0), none⟩,
              ⟨some 35, .mv (.t 5), none⟩,
              ⟨some 36, .elemAddr 9 (.t 34) (.t 35), none⟩,
              ⟨some 37, .fieldAddr 0 (.t 36), none⟩,
              ⟨some 38, .load false 1 (.t 37), none⟩,
              ⟨some 39, .bin .mul (.c (.int .i64 14)) (.t 38), none⟩,
              ⟨some 40, .bin .sub (.t 39) (.c (.int .i64 63)), none⟩,
              ⟨some 4, .mv (.t 40), none⟩]) (
            .ret))) (
           .skip))))))) (
        .region [] [
          ⟨some 10, .mv (.t 5), none⟩,
          ⟨some 11, .bin .add (.t 10) (.c (.int .i64 1)), none⟩,
          ⟨some 5, .mv (.t 11), none⟩]))))))))))) (
   (.seq (
    .region [] [
      ⟨some 4, .mv (.c (.int .i64 0)), none⟩]) (
    .ret))))))⟩

def a31 : AFunc := ⟨[.tmp 4, .tmp 5],
 (.seq (
  .region [] [
    ⟨some 2, .box 1 (.t 0), none⟩,
    ⟨some 4, .mv (.c .nilsl), none⟩,
    ⟨some 5, .mv (.c (.int .i64 0)), none⟩]) (
  (.seq (
   (.seq (
    .region [] [
      ⟨some 8, .load true 9 (.t 2), none⟩,
      ⟨some 9, .call 0 (.c (.fn 12 [])) [(.t 8)], none⟩,
      ⟨some 6, .mv (.t 9), none⟩]) (
    (.seq (
     .region [] [
       ⟨some 10, .mv (.t 6), none⟩,
       ⟨some 11, .bin .neq (.t 10) (.c (.int .i64 0)), none⟩]) (
     (.cond (.t 11) (
      (.seq (
       .region [] [
         ⟨some 12, .mv (.t 6), none⟩,
         ⟨some 4, .mv (.c .nilsl), none⟩,
         ⟨some 5, .mv (.t 12), none⟩]) (
       .ret))) (
      .skip))))))) (
   (.seq (
    (.seq (
     .region [] [
       ⟨some 13, .mv (.t 1), none⟩,
       ⟨some 14, .len (.t 13), none⟩,
       ⟨some 15, .bin .eql (.t 14) (.c (.int .i64 0)), none⟩]) (
     (.cond (.t 15) (
      (.seq (
       .region [] [
         ⟨some 4, .mv (.c .nilsl), none⟩,
         ⟨some 5, .mv (.c (.int .i64 4)), none⟩]) (
       .ret))) (
      .skip))))) (
    (.seq (
     (.seq (
      .region [] [
        ⟨some 7, .mv (.c (.int .i64 1)), none⟩]) (
      (.block 0 (
       (.loop (
        (.seq (
         (.seq (
          .region [] [
            ⟨some 16, .mv (.t 7), none⟩,
            ⟨some 17, .mv (.t 1), none⟩,
            ⟨some 18, .len (.t 17), none⟩,
            ⟨some 19, .bin .lss (.t 16) (.t 18), none⟩]) (
          (.cond (.t 19) (
           .skip) (
           .exit 0))))) (
         (.seq (
          (.block 1 (
           (.seq (
            .region [] [
              ⟨some 22, .mv (.t 1), none⟩,
              ⟨some 23, .mv (.t 7), none⟩,
              ⟨some 24, .elemAddr 1 (.t 22) (.t 23), none⟩,
              ⟨some 25, .load false 1 (.t 24), none⟩,
              ⟨some 26, .mv (.t 1), none⟩,
              ⟨some 27, .mv (.t 7), none⟩,
              ⟨some 28, .bin .sub (.t 27) (.c (.int .i64 1)), none⟩,
              ⟨some 29, .elemAddr 1 (.t 26) (.t 28), none⟩,
              ⟨some 30, .load false 1 (.t 29), none⟩,
              ⟨some 31, .bin .leq (.t 25) (.t 30), none⟩]) (
            (.cond (.t 31) (
             (.seq (
              .region [] [
                ⟨some 4, .mv (.c .nilsl), none⟩,
                ⟨some 5, .mv (.c (.int .i64 25)), none⟩]) (
              .ret))) (
             .skip))))))) (
          .region [] [
            ⟨some 20, .mv (.t 7), none⟩,
            ⟨some 21, .bin .add (.t 20) (.c (.int .i64 1)), none⟩,
            ⟨some 7, .mv (.t 21), none⟩]))))))))))) (
     (.seq (
      (.seq (
       .region [] [
         ⟨some 32, .mv (.t 1), none⟩,
         ⟨some 33, .elemAddr 1 (.t 32) (.c (.int .i64 0)), none⟩,
         ⟨some 34, .load false 1 (.t 33), none⟩,
         ⟨some 35, .fieldAddr 1 (.t 2), none⟩,
         ⟨some 36, .fieldAddr 0 (.t 35), none⟩,
         ⟨some 37, .load false 1 (.t 36), none⟩,
         ⟨some 38, .bin .gtr (.t 34) (.t 37), none⟩]) (
       (.cond (.t 38) (
        (.seq (
         .region [] [
           ⟨some 4, .mv (.c .nilsl), none⟩,
           ⟨some 5, .mv (.c (.int .i64 2)), none⟩]) (
         .ret))) (
        .skip))))) (
      (.seq (
       .region [] [
         ⟨some 39, .load true 9 (.t 2), none⟩,
         ⟨some 40, .mv (.t 1), none⟩,
         ⟨some 41, .call 0 (.c (.fn 56 [])) [(.t 39), (.t 40)], none⟩,
         ⟨some 42, .call 0 (.c (.fn 55 [])) [(.t 41)], none⟩,
         ⟨some 4, .mv (.t 42), none⟩,
         ⟨some 5, .mv (.c (.int .i64 0)), none⟩]) (
       .ret))))))))))))⟩

def a32 : AFunc := ⟨[.tmp 4, .tmp 5],
 (.seq (
  .region [] [
    ⟨some 2, .box 1 (.t 0), none⟩,
    ⟨some 4, .mv (.c .nilsl), none⟩,
    ⟨some 5, .mv (.c (.int .i64 0)), none⟩]) (
  (.seq (
   (.seq (
    .region [] [
      ⟨some 12, .load true 9 (.t 2), none⟩,
      ⟨some 13, .call 0 (.c (.fn 14 [])) [(.t 12)], none⟩,
      ⟨some 6, .mv (.t 13), none⟩]) (
    (.seq (
     .region [] [
       ⟨some 14, .mv (.t 6), none⟩,
       ⟨some 15, .bin .neq (.t 14) (.c (.int .i64 0)), none⟩]) (
     (.cond (.t 15) (
      (.seq (
       .region [] [
         ⟨some 16, .mv (.t 6), none⟩,
         ⟨some 4, .mv (.c .nilsl), none⟩,
         ⟨some 5, .mv (.t 16), none⟩]) (
       .ret))) (
      .skip))))))) (
   (.seq (
    (.seq (
     .region [] [
       ⟨some 17, .mv (.t 1), none⟩,
       ⟨some 18, .len (.t 17), none⟩,
       ⟨some 19, .bin .eql (.t 18) (.c (.int .i64 0)), none⟩]) (
     (.cond (.t 19) (
      (.seq (
       .region [] [
         ⟨some 4, .mv (.c .nilsl), none⟩,
         ⟨some 5, .mv (.c (.int .i64 4)), none⟩]) (
       .ret))) (
      .skip))))) (
    (.seq (
     (.seq (
      .region [] [
        ⟨some 7, .mv (.c (.int .i64 1)), none⟩]) (
      (.block 0 (
       (.loop (
        (.seq (
         (.seq (
          .region [] [
            ⟨some 20, .mv (.t 7), none⟩,
            ⟨some 21, .mv (.t 1), none⟩,
            ⟨some 22, .len (.t 21), none⟩,
            ⟨some 23, .bin .lss (.t 20) (.t 22), none⟩]) (
          (.cond (.t 23) (
           .skip) (
           .exit 0))))) (
         (.seq (
          (.block 1 (
           (.seq (
            .region [] [
              ⟨some 26, .mv (.t 1), none⟩,
              ⟨some 27, .mv (.t 7), none⟩,
              ⟨some 28, .elemAddr 1 (.t 26) (.t 27), none⟩,
              ⟨some 29, .load false 1 (.t 28), none⟩,
              ⟨some 30, .mv (.t 1), none⟩,
              ⟨some 31, .mv (.t 7), none⟩,
              ⟨some 32, .bin .sub (.t 31) (.c (.int .i64 1)), none⟩,
              ⟨some 33, .elemAddr 1 (.t 30) (.t 32), none⟩,
              ⟨some 34, .load false 1 (.t 33), none⟩,
              ⟨some 35, .bin .leq (.t 29) (.t 34), none⟩]) (
            (.cond (.t 35) (
             (.seq (
              .region [] [
                ⟨some 4, .mv (.c .nilsl), none⟩,
                ⟨some 5, .mv (.c (.int .i64 25)), none⟩]) (
              .ret))) (
             .skip))))))) (
          .region [] [
            ⟨some 24, .mv (.t 7), none⟩,
            ⟨some 25, .bin .add (.t 24) (.c (.int .i64 1)), none⟩,
            ⟨some 7, .mv (.t 25), none⟩]))))))))))) (
     (.seq (
      (.seq (
       .region [] [
         ⟨some 36, .mv (.t 1), none⟩,
         ⟨some 37, .elemAddr 1 (.t 36) (.c (.int .i64 0)), none⟩,
         ⟨some 38, .load false 1 (.t 37), none⟩,
         ⟨some 39, .fieldAddr 1 (.t 2), none⟩,
         ⟨some 40, .fieldAddr 0 (.t 39), none⟩,
         ⟨some 41, .load false 1 (.t 40), none⟩,
         ⟨some 42, .bin .gtr (.t 38) (.t 41), none⟩]) (
       (.cond (.t 42) (
        (.seq (
         .region [] [
           ⟨some 4, .mv (.c .nilsl), none⟩,
           ⟨some 5, .mv (.c (.int .i64 2)), none⟩]) (
         .ret))) (
        .skip))))) (
      (.seq (
       .region [] [
         ⟨some 8, .mv (.c .nilsl), none⟩]) (
       (.seq (
        .region [] [
          ⟨some 9, .mv (.c (.int .i64 0)), none⟩]) (
        (.seq (
         (.seq (
          .region [] [
            ⟨some 43, .fieldAddr 1 (.t 2), none⟩,
            ⟨some 44, .fieldAddr 0 (.t 43), none⟩,
            ⟨some 45, .load false 1 (.t 44), none⟩,
            ⟨some 10, .mv (.t 45), none⟩]) (
          (.block 2 (
           (.loop (
            (.seq (
             (.seq (
              .region [] [
                ⟨some 46, .mv (.t 10), none⟩,
                ⟨some 47, .fieldAddr 5 (.t 2), none⟩,
                ⟨some 48, .fieldAddr 0 (.t 47), none⟩,
                ⟨some 49, .load false 1 (.t 48), none⟩,
                ⟨some 50, .bin .leq (.t 46) (.t 49), none⟩]) (
              (.cond (.t 50) (
               .skip) (
               .exit 2))))) (
             (.seq (
              (.block 3 (
               (.seq (
                (.block 4 (
                 (.loop (
                  (.seq (
                   (.seq (
                    .region [] [
                      ⟨some 53, .mv (.t 9), none⟩,
                      ⟨some 54, .bin .add (.t 53) (.c (.int .i64 1)), none⟩,
                      ⟨some 55, .mv (.t 1), none⟩,
                      ⟨some 56, .len (.t 55), none⟩,
                      ⟨some 57, .bin .lss (.t 54) (.t 56), none⟩,
                      ⟨some 58, .mv (.t 57), none⟩,
                      ⟨some 59, .mv (.t 1), some (58, true)⟩,
                      ⟨some 60, .mv (.t 9), some (58, true)⟩,
                      ⟨some 61, .bin .add (.t 60) (.c (.int .i64 1)), some (58, true)⟩,
                      ⟨some 62, .elemAddr 1 (.t 59) (.t 61), some (58, true)⟩,
                      ⟨some 63, .load false 1 (.t 62), some (58, true)⟩,
                      ⟨some 64, .mv (.t 10), some (58, true)⟩,
                      ⟨some 65, .bin .leq (.t 63) (.t 64), some (58, true)⟩,
                      ⟨some 66, .pick (.t 58) (.t 65) (.c (.bool false)), none⟩]) (
                    (.cond (.t 66) (
                     .skip) (
                     .exit 4))))) (
                   (.block 5 (
                    .region [] [
                      ⟨some 67, .mv (.t 9), none⟩,
                      ⟨some 68, .bin .add (.t 67) (.c (.int .i64 1)), none⟩,
                      ⟨some 9, .mv (.t 68), none⟩]))))))))) (
                (.seq (
                 (.seq (
                  .region [] [
                    ⟨some 69, .mv (.t 8), none⟩,
                    ⟨some 70, .len (.t 69), none⟩,
                    ⟨some 11, .mv (.t 70), none⟩]) (
                  (.seq (
                   .region [] [
                     ⟨some 71, .mv (.t 11), none⟩,
                     ⟨some 72, .bin .gtr (.t 71) (.c (.int .i64 0)), none⟩,
                     ⟨some 73, .mv (.t 72), none⟩,
                     ⟨some 74, .mv (.t 8), some (73, true)⟩,
                     ⟨some 75, .mv (.t 11), some (73, true)⟩,
                     ⟨some 76, .bin .sub (.t 75) (.c (.int .i64 1)), some (73, true)⟩,
                     ⟨some 77, .elemAddr 5 (.t 74) (.t 76), some (73, true)⟩,
                     ⟨some 78, .fieldAddr 0 (.t 77), some (73, true)⟩,
                     ⟨some 79, .load false 1 (.t 78), some (73, true)⟩,
                     ⟨some 80, .mv (.t 9), some (73, true)⟩,
                     ⟨some 81, .bin .eql (.t 79) (.t 80), some (73, true)⟩,
                     ⟨some 82, .pick (.t 73) (.t 81) (.c (.bool false)), none⟩]) (
                   (.cond (.t 82) (
                    .region [] [
                      ⟨some 83, .mv (.t 8), none⟩,
                      ⟨some 84, .mv (.t 11), none⟩,
                      ⟨some 85, .bin .sub (.t 84) (.c (.int .i64 1)), none⟩,
                      ⟨some 86, .mv (.t 10), none⟩,
                      ⟨some 87, .elemAddr 5 (.t 83) (.t 85), none⟩,
                      ⟨some 88, .fieldAddr 2 (.t 87), none⟩,
                      ⟨none, .store 1 (.t 88) (.t 86), none⟩]) (
                    .region [] [
                      ⟨some 89, .mv (.t 8), none⟩,
                      ⟨some 90, .mv (.t 9), none⟩,
                      ⟨some 91, .mv (.t 10), none⟩,
                      ⟨some 92, .mv (.t 10), none⟩,
                      ⟨some 93, .mv (.t 10), none⟩,
                      ⟨some 94, .fieldAddr 1 (.t 2), none⟩,
                      ⟨some 95, .fieldAddr 0 (.t 94), none⟩,
                      ⟨some 96, .load false 1 (.t 95), none⟩,
                      ⟨some 97, .bin .eql (.t 93) (.t 96), none⟩,
                      ⟨some 98, .build [(.int .i64 0), (.int .i64 0), (.int .i64 0), (.bool false), (.bool false)] [(0, 1, (.t 90)), (1, 1, (.t 91)), (2, 1, (.t 92)), (3, 1, (.t 97))], none⟩,
                      ⟨some 99, .lit 5 [(.int .i64 0), (.int .i64 0), (.int .i64 0), (.bool false), (.bool false)] 1 [(0, 5, (.t 98))], none⟩,
                      ⟨some 100, .app 2 5 32 (.t 89) (.t 99), none⟩,
                      ⟨some 8, .mv (.t 100), none⟩]))))))) (
                 (.seq (
                  .region [] [
                    ⟨some 101, .mv (.t 10), none⟩,
                    ⟨some 102, .fieldAddr 5 (.t 2), none⟩,
                    ⟨some 103, .fieldAddr 0 (.t 102), none⟩,
                    ⟨some 104, .load false 1 (.t 103), none⟩,
                    ⟨some 105, .bin .eql (.t 101) (.t 104), none⟩]) (
                  (.cond (.t 105) (
                   .region [] [
                     ⟨some 106, .mv (.t 8), none⟩,
                     ⟨some 107, .mv (.t 8), none⟩,
                     ⟨some 108, .len (.t 107), none⟩,
                     ⟨some 109, .bin .sub (.t 108) (.c (.int .i64 1)), none⟩,
                     ⟨some 110, .elemAddr 5 (.t 106) (.t 109), none⟩,
                     ⟨some 111, .fieldAddr 4 (.t 110), none⟩,
                     ⟨none, .store 1 (.t 111) (.c (.bool true)), none⟩]) (
                   .skip))))))))))) (
              .region [] [
                ⟨some 51, .mv (.t 10), none⟩,
                ⟨some 52, .bin .add (.t 51) (.c (.int .i64 1)), none⟩,
                ⟨some 10, .mv (.t 52), none⟩]))))))))))) (
         (.seq (
          .region [] [
            ⟨some 112, .mv (.t 8), none⟩,
            ⟨some 4, .mv (.t 112), none⟩,
            ⟨some 5, .mv (.c (.int .i64 0)), none⟩]) (
          .ret))))))))))))))))))⟩

def a33 : AFunc := ⟨[.tmp 2],
 (.seq (
  .region [] [
    ⟨some 1, .box 1 (.t 0), none⟩,
    ⟨some 2, .mv (.c (.bool false)), none⟩]) (
  (.seq (
   .region [] [
     ⟨some 3, .mv (.c (.fn 57 [])), none⟩]) (
   (.seq (
    .region [] [
      ⟨some 4, .mv (.t 3), none⟩,
      ⟨some 5, .fieldAddr 0 (.t 1), none⟩,
      ⟨some 6, .load false 1 (.t 5), none⟩,
      ⟨some 7, .call 0 (.t 4) [(.t 6), (.c (.int .i64 1023))], none⟩,
      ⟨some 8, .mv (.t 7), none⟩,
      ⟨some 9, .mv (.t 3), some (8, true)⟩,
      ⟨some 10, .fieldAddr 1 (.t 1), some (8, true)⟩,
      ⟨some 11, .load false 1 (.t 10), some (8, true)⟩,
      ⟨some 12, .call 0 (.t 9) [(.t 11), (.c (.int .i64 4398046511104))], some (8, true)⟩,
      ⟨some 13, .pick (.t 8) (.t 12) (.c (.bool false)), none⟩,
      ⟨some 14, .mv (.t 13), none⟩,
      ⟨some 15, .mv (.t 3), some (14, true)⟩,
      ⟨some 16, .fieldAddr 2 (.t 1), some (14, true)⟩,
      ⟨some 17, .load false 1 (.t 16), some (14, true)⟩,
      ⟨some 18, .call 0 (.t 15) [(.t 17), (.c (.int .i64 127))], some (14, true)⟩,
      ⟨some 19, .pick (.t 14) (.t 18) (.c (.bool false)), none⟩,
      ⟨some 20, .mv (.t 19), none⟩,
      ⟨some 21, .mv (.t 3), some (20, true)⟩,
      ⟨some 22, .fieldAddr 3 (.t 1), some (20, true)⟩,
      ⟨some 23, .load false 1 (.t 22), some (20, true)⟩,
      ⟨some 24, .call 0 (.t 21) [(.t 23), (.c (.int .i64 1))], some (20, true)⟩,
      ⟨some 25, .pick (.t 20) (.t 24) (.c (.bool false)), none⟩,
      ⟨some 2, .mv (.t 25), none⟩]) (
    .ret))))))⟩

def a34 : AFunc := ⟨[.tmp 2],
 (.seq (
  .region [] [
    ⟨some 2, .mv (.c (.bool false)), none⟩]) (
  (.seq (
   .region [] [
     ⟨some 3, .mv (.t 0), none⟩,
     ⟨some 4, .bin .eql (.t 3) (.c (.int .i64 1)), none⟩,
     ⟨some 5, .mv (.t 4), none⟩,
     ⟨some 6, .mv (.t 0), some (5, false)⟩,
     ⟨some 7, .bin .eql (.t 6) (.c (.int .i64 7)), some (5, false)⟩,
     ⟨some 8, .pick (.t 5) (.c (.bool true)) (.t 7), none⟩,
     ⟨some 2, .mv (.t 8), none⟩]) (
   .ret))))⟩

def a35 : AFunc := ⟨[.tmp 2],
 (.seq (
  .region [] [
    ⟨some 1, .box 1 (.t 0), none⟩,
    ⟨some 2, .mv (.c (.bool false)), none⟩]) (
  (.seq (
   .region [] [
     ⟨some 3, .fieldAddr 0 (.t 1), none⟩,
     ⟨some 4, .load false 1 (.t 3), none⟩,
     ⟨some 5, .bin .geq (.t 4) (.c (.int .i64 0)), none⟩,
     ⟨some 6, .mv (.t 5), none⟩,
     ⟨some 7, .fieldAddr 0 (.t 1), some (6, true)⟩,
     ⟨some 8, .load false 1 (.t 7), some (6, true)⟩,
     ⟨some 9, .bin .lss (.t 8) (.c (.int .i64 1024)), some (6, true)⟩,
     ⟨some 10, .pick (.t 6) (.t 9) (.c (.bool false)), none⟩,
     ⟨some 11, .mv (.t 10), none⟩,
     ⟨some 12, .fieldAddr 1 (.t 1), some (11, true)⟩,
     ⟨some 13, .load false 1 (.t 12), some (11, true)⟩,
     ⟨some 14, .bin .geq (.t 13) (.c (.int .i64 0)), some (11, true)⟩,
     ⟨some 15, .pick (.t 11) (.t 14) (.c (.bool false)), none⟩,
     ⟨some 16, .mv (.t 15), none⟩,
     ⟨some 17, .fieldAddr 1 (.t 1), some (16, true)⟩,
     ⟨some 18, .load false 1 (.t 17), some (16, true)⟩,
     ⟨some 19, .bin .leq (.t 18) (.c (.int .i64 4398046511104)), some (16, true)⟩,
     ⟨some 20, .pick (.t 16) (.t 19) (.c (.bool false)), none⟩,
     ⟨some 21, .mv (.t 20), none⟩,
     ⟨some 22, .fieldAddr 2 (.t 1), some (21, true)⟩,
     ⟨some 23, .load false 1 (.t 22), some (21, true)⟩,
     ⟨some 24, .bin .geq (.t 23) (.c (.int .i64 0)), some (21, true)⟩,
     ⟨some 25, .pick (.t 21) (.t 24) (.c (.bool false)), none⟩,
     ⟨some 26, .mv (.t 25), none⟩,
     ⟨some 27, .fieldAddr 2 (.t 1), some (26, true)⟩,
     ⟨some 28, .load false 1 (.t 27), some (26, true)⟩,
     ⟨some 29, .bin .lss (.t 28) (.c (.int .i64 128)), some (26, true)⟩,
     ⟨some 30, .pick (.t 26) (.t 29) (.c (.bool false)), none⟩,
     ⟨some 31, .mv (.t 30), none⟩,
     ⟨some 32, .fieldAddr 3 (.t 1), some (31, true)⟩,
     ⟨some 33, .load false 1 (.t 32), some (31, true)⟩,
     ⟨some 34, .bin .geq (.t 33) (.c (.int .i64 0)), some (31, true)⟩,
     ⟨some 35, .pick (.t 31) (.t 34) (.c (.bool false)), none⟩,
     ⟨some 36, .mv (.t 35), none⟩,
     ⟨some 37, .fieldAddr 3 (.t 1), some (36, true)⟩,
     ⟨some 38, .load false 1 (.t 37), some (36, true)⟩,
     ⟨some 39, .bin .lss (.t 38) (.c (.int .i64 2)), some (36, true)⟩,
     ⟨some 40, .pick (.t 36) (.t 39) (.c (.bool false)), none⟩,
     ⟨some 2, .mv (.t 40), none⟩]) (
   .ret))))⟩

def a36 : AFunc := ⟨[.tmp 2],
 (.seq (
  .region [] [
    ⟨some 2, .mv (.c (.int .i64 0)), none⟩]) (
  (.seq (
   .region [] [
     ⟨some 3, .mv (.c (.int .i64 0)), none⟩]) (
   (.seq (
    (.seq (
     .region [] [
       ⟨some 6, .mv (.t 0), none⟩,
       ⟨some 7, .len (.t 6), none⟩,
       ⟨some 8, .mv (.c (.int .i64 0)), none⟩]) (
     (.block 0 (
      (.loop (
       (.seq (
        .region [] [
          ⟨some 9, .bin .lss (.t 8) (.t 7), none⟩]) (
        (.seq (
         (.cond (.t 9) (
          .skip) (
          .exit 0))) (
         (.seq (
          (.block 1 (
           (.seq (
            .region [] [
              ⟨some 10, .elemAddr 1 (.t 6) (.t 8), none⟩,
              ⟨some 11, .load false 1 (.t 10), none⟩,
              ⟨some 5, .mv (.t 11), none⟩]) (
            (.seq (
             .region [] [
               ⟨some 12, .mv (.t 5), none⟩,
               ⟨some 13, .mv (.t 3), none⟩,
               ⟨some 14, .bin .neq (.t 12) (.t 13), none⟩]) (
             (.cond (.t 14) (
              (.seq (
               .region [] [
                 ⟨some 15, .mv (.t 5), none⟩,
                 ⟨some 2, .mv (.t 15), none⟩]) (
               .ret))) (
              .skip))))))))) (
          .region [] [
            ⟨some 16, .bin .add (.t 8) (.c (.int .i64 1)), none⟩,
            ⟨some 8, .mv (.t 16), none⟩]))))))))))))) (
    (.seq (
     .region [] [
       ⟨some 17, .mv (.t 3), none⟩,
       ⟨some 2, .mv (.t 17), none⟩]) (
     .ret))))))))⟩

def a37 : AFunc := ⟨[.tmp 4],
 (.seq (
  .region [] [
    ⟨some 4, .mv (.c (.int .i64 0)), none⟩]) (
  (.seq (
   .region [] [
     ⟨some 7, .mv (.t 0), none⟩,
     ⟨some 8, .call 0 (.c (.fn 58 [])) [(.t 7)], none⟩,
     ⟨some 5, .mv (.t 8), none⟩]) (
   (.seq (
    .region [] [
      ⟨some 9, .mv (.t 1), none⟩,
      ⟨some 10, .call 0 (.c (.fn 58 [])) [(.t 9)], none⟩,
      ⟨some 6, .mv (.t 10), none⟩]) (
    (.seq (
     (.seq (
      .region [] [
        ⟨some 11, .mv (.t 5), none⟩]) (
      (.cond (.t 11) (
       (.seq (
        (.seq (
         .region [] [
           ⟨some 12, .mv (.t 6), none⟩]) (
         (.cond (.t 12) (
          (.seq (
           .region [] [
             ⟨some 4, .mv (.c (.int .i64 0)), none⟩]) (
           .ret))) (
          .skip))))) (
        (.seq (
         .region [] [
           ⟨some 4, .mv (.c (.int .i64 (-1))), none⟩]) (
         .ret))))) (
       .skip))))) (
     (.seq (
      (.seq (
       .region [] [
         ⟨some 13, .mv (.t 6), none⟩]) (
       (.cond (.t 13) (
        (.seq (
         .region [] [
           ⟨some 4, .mv (.c (.int .i64 1)), none⟩]) (
         .ret))) (
        .skip))))) (
      (.seq (
       (.seq (
        .region [] [
          ⟨some 14, .mv (.t 0), none⟩,
          ⟨some 15, .mv (.t 1), none⟩,
          ⟨some 16, .bin .lss (.t 14) (.t 15), none⟩]) (
        (.cond (.t 16) (
         (.seq (
          .region [] [
            ⟨some 4, .mv (.c (.int .i64 (-1))), none⟩]) (
          .ret))) (
         .skip))))) (
       (.seq (
        (.seq (
         .region [] [
           ⟨some 17, .mv (.t 0), none⟩,
           ⟨some 18, .mv (.t 1), none⟩,
           ⟨some 19, .bin .gtr (.t 17) (.t 18), none⟩]) (
         (.cond (.t 19) (
          (.seq (
           .region [] [
             ⟨some 4, .mv (.c (.int .i64 1)), none⟩]) (
           .ret))) (
          .skip))))) (
        (.seq (
         .region [] [
           ⟨some 4, .mv (.c (.int .i64 0)), none⟩]) (
         .ret))))))))))))))))⟩

def a38 : AFunc := ⟨[.tmp 4],
 (.seq (
  .region [] [
    ⟨some 2, .box 1 (.t 0), none⟩,
    ⟨some 3, .box 2 (.t 1), none⟩,
    ⟨some 4, .mv (.c (.bool false)), none⟩]) (
  (.seq (
   .region [] [
     ⟨some 6, .fieldAddr 0 (.t 2), none⟩,
     ⟨some 7, .load false 1 (.t 6), none⟩,
     ⟨some 8, .call 0 (.c (.fn 39 [])) [(.t 7)], none⟩,
     ⟨some 5, .mv (.t 8), none⟩]) (
   (.seq (
    (.seq (
     .region [] [
       ⟨some 9, .mv (.t 5), none⟩,
       ⟨some 10, .bin .eql (.t 9) (.c (.int .i64 0)), none⟩,
       ⟨some 11, .mv (.t 10), none⟩,
       ⟨some 12, .mv (.t 5), some (11, false)⟩,
       ⟨some 13, .fieldAddr 0 (.t 3), some (11, false)⟩,
       ⟨some 14, .load false 1 (.t 13), some (11, false)⟩,
       ⟨some 15, .call 0 (.c (.fn 39 [])) [(.t 14)], some (11, false)⟩,
       ⟨some 16, .bin .neq (.t 12) (.t 15), some (11, false)⟩,
       ⟨some 17, .pick (.t 11) (.c (.bool true)) (.t 16), none⟩,
       ⟨some 18, .mv (.t 17), none⟩,
       ⟨some 19, .fieldAddr 1 (.t 2), some (18, false)⟩,
       ⟨some 20, .fieldAddr 2 (.t 19), some (18, false)⟩,
       ⟨some 21, .load false 1 (.t 20), some (18, false)⟩,
       ⟨some 22, .fieldAddr 1 (.t 3), some (18, false)⟩,
       ⟨some 23, .fieldAddr 2 (.t 22), some (18, false)⟩,
       ⟨some 24, .load false 1 (.t 23), some (18, false)⟩,
       ⟨some 25, .bin .neq (.t 21) (.t 24), some (18, false)⟩,
       ⟨some 26, .pick (.t 18) (.c (.bool true)) (.t 25), none⟩]) (
     (.cond (.t 26) (
      (.seq (
       .region [] [
         ⟨some 4, .mv (.c (.bool false)), none⟩]) (
       .ret))) (
      .skip))))) (
    (.seq (
     .region [] [
       ⟨some 27, .mv (.t 5), none⟩,
       ⟨some 28, .bin .neq (.t 27) (.c (.int .i64 1)), none⟩,
       ⟨some 29, .mv (.t 28), none⟩,
       ⟨some 30, .mv (.t 5), some (29, true)⟩,
       ⟨some 31, .bin .neq (.t 30) (.c (.int .i64 5)), some (29, true)⟩,
       ⟨some 32, .pick (.t 29) (.t 31) (.c (.bool false)), none⟩,
       ⟨some 33, .mv (.t 32), none⟩,
       ⟨some 34, .fieldAddr 1 (.t 2), some (33, false)⟩,
       ⟨some 35, .fieldAddr 3 (.t 34), some (33, false)⟩,
       ⟨some 36, .load false 1 (.t 35), some (33, false)⟩,
       ⟨some 37, .fieldAddr 1 (.t 3), some (33, false)⟩,
       ⟨some 38, .fieldAddr 3 (.t 37), some (33, false)⟩,
       ⟨some 39, .load false 1 (.t 38), some (33, false)⟩,
       ⟨some 40, .bin .eql (.t 36) (.t 39), some (33, false)⟩,
       ⟨some 41, .pick (.t 33) (.c (.bool true)) (.t 40), none⟩,
       ⟨some 4, .mv (.t 41), none⟩]) (
     .ret))))))))⟩

def a39 : AFunc := ⟨[.tmp 2],
 (.seq (
  .region [] [
    ⟨some 2, .mv (.c (.int .i64 0)), none⟩]) (
  (.seq (
   (.seq (
    .region [] [
      ⟨some 3, .mv (.t 0), none⟩,
      ⟨some 4, .bin .lss (.t 3) (.c (.int .i64 1)), none⟩,
      ⟨some 5, .mv (.t 4), none⟩,
      ⟨some 6, .mv (.t 0), some (5, false)⟩,
      ⟨some 7, .bin .gtr (.t 6) (.c (.int .i64 7)), some (5, false)⟩,
      ⟨some 8, .pick (.t 5) (.c (.bool true)) (.t 7), none⟩]) (
    (.cond (.t 8) (
     (.seq (
      .region [] [
        ⟨some 2, .mv (.c (.int .i64 0)), none⟩]) (
      .ret))) (
     .skip))))) (
   (.seq (
    .region [] [
      ⟨some 9, .lit 1 [(.int .i64 0)] 8 [(0, 1, (.c (.int .i64 0))), (1, 1, (.c (.int .i64 1))), (2, 1, (.c (.int .i64 2))), (3, 1, (.c (.int .i64 2))), (4, 1, (.c (.int .i64 3))), (5, 1, (.c (.int .i64 3))), (6, 1, (.c (.int .i64 4))), (7, 1, (.c (.int .i64 5)))], none⟩,
      ⟨some 10, .mv (.t 0), none⟩,
      ⟨some 11, .elemAddr 1 (.t 9) (.t 10), none⟩,
      ⟨some 12, .load false 1 (.t 11), none⟩,
      ⟨some 2, .mv (.t 12), none⟩]) (
    .ret))))))⟩

def a40 : AFunc := ⟨[.tmp 4],
 (.seq (
  .region [] [
    ⟨some 2, .box 1 (.t 0), none⟩,
    ⟨some 3, .box 2 (.t 1), none⟩,
    ⟨some 4, .mv (.c (.bool false)), none⟩]) (
  (.seq (
   .region [] [
     ⟨some 5, .fieldAddr 1 (.t 2), none⟩,
     ⟨some 6, .load true 4 (.t 5), none⟩,
     ⟨some 7, .fieldAddr 1 (.t 3), none⟩,
     ⟨some 8, .load true 4 (.t 7), none⟩,
     ⟨some 9, .call 0 (.c (.fn 17 [])) [(.t 6), (.t 8)], none⟩,
     ⟨some 10, .bin .geq (.t 9) (.c (.int .i64 0)), none⟩,
     ⟨some 11, .mv (.t 10), none⟩,
     ⟨some 12, .fieldAddr 5 (.t 2), some (11, true)⟩,
     ⟨some 13, .load true 4 (.t 12), some (11, true)⟩,
     ⟨some 14, .fieldAddr 5 (.t 3), some (11, true)⟩,
     ⟨some 15, .load true 4 (.t 14), some (11, true)⟩,
     ⟨some 16, .call 0 (.c (.fn 17 [])) [(.t 13), (.t 15)], some (11, true)⟩,
     ⟨some 17, .bin .leq (.t 16) (.c (.int .i64 0)), some (11, true)⟩,
     ⟨some 18, .pick (.t 11) (.t 17) (.c (.bool false)), none⟩,
     ⟨some 4, .mv (.t 18), none⟩]) (
   .ret))))⟩

def a41 : AFunc := ⟨[.tmp 4],
 (.seq (
  .region [] [
    ⟨some 2, .box 1 (.t 0), none⟩,
    ⟨some 3, .box 2 (.t 1), none⟩,
    ⟨some 4, .mv (.c (.bool false)), none⟩]) (
  (.seq (
   .region [] [
     ⟨some 5, .fieldAddr 0 (.t 2), none⟩,
     ⟨some 6, .load false 1 (.t 5), none⟩,
     ⟨some 7, .call 0 (.c (.fn 54 [])) [(.t 6)], none⟩,
     ⟨some 8, .bin .gtr (.t 7) (.c (.int .i64 0)), none⟩,
     ⟨some 9, .mv (.t 8), none⟩,
     ⟨some 10, .fieldAddr 0 (.t 2), some (9, true)⟩,
     ⟨some 11, .load false 1 (.t 10), some (9, true)⟩,
     ⟨some 12, .call 0 (.c (.fn 54 [])) [(.t 11)], some (9, true)⟩,
     ⟨some 13, .fieldAddr 0 (.t 3), some (9, true)⟩,
     ⟨some 14, .load false 1 (.t 13), some (9, true)⟩,
     ⟨some 15, .call 0 (.c (.fn 54 [])) [(.t 14)], some (9, true)⟩,
     ⟨some 16, .bin .eql (.t 12) (.t 15), some (9, true)⟩,
     ⟨some 17, .pick (.t 9) (.t 16) (.c (.bool false)), none⟩,
     ⟨some 18, .mv (.t 17), none⟩,
     ⟨some 19, .fieldAddr 1 (.t 2), some (18, true)⟩,
     ⟨some 20, .fieldAddr 2 (.t 19), some (18, true)⟩,
     ⟨some 21, .load false 1 (.t 20), some (18, true)⟩,
     ⟨some 22, .fieldAddr 1 (.t 3), some (18, true)⟩,
     ⟨some 23, .fieldAddr 2 (.t 22), some (18, true)⟩,
     ⟨some 24, .load false 1 (.t 23), some (18, true)⟩,
     ⟨some 25, .bin .eql (.t 21) (.t 24), some (18, true)⟩,
     ⟨some 26, .pick (.t 18) (.t 25) (.c (.bool false)), none⟩,
     ⟨some 27, .mv (.t 26), none⟩,
     ⟨some 28, .fieldAddr 0 (.t 2), some (27, true)⟩,
     ⟨some 29, .load false 1 (.t 28), some (27, true)⟩,
     ⟨some 30, .call 0 (.c (.fn 34 [])) [(.t 29)], some (27, true)⟩,
     ⟨some 31, .not (.t 30), some (27, true)⟩,
     ⟨some 32, .mv (.t 31), some (27, true)⟩,
     ⟨some 33, .fieldAddr 1 (.t 2), some (32, false)⟩,
     ⟨some 34, .fieldAddr 3 (.t 33), some (32, false)⟩,
     ⟨some 35, .load false 1 (.t 34), some (32, false)⟩,
     ⟨some 36, .fieldAddr 1 (.t 3), some (32, false)⟩,
     ⟨some 37, .fieldAddr 3 (.t 36), some (32, false)⟩,
     ⟨some 38, .load false 1 (.t 37), some (32, false)⟩,
     ⟨some 39, .bin .eql (.t 35) (.t 38), some (32, false)⟩,
     ⟨some 40, .pick (.t 32) (.c (.bool true)) (.t 39), some (27, true)⟩,
     ⟨some 41, .pick (.t 27) (.t 40) (.c (.bool false)), none⟩,
     ⟨some 4, .mv (.t 41), none⟩]) (
   .ret))))⟩

def a42 : AFunc := ⟨[.tmp 4],
 (.seq (
  .region [] [
    ⟨some 2, .box 1 (.t 0), none⟩,
    ⟨some 3, .box 2 (.t 1), none⟩,
    ⟨some 4, .mv (.c (.bool false)), none⟩]) (
  (.seq (
   .region [] [
     ⟨some 5, .load true 9 (.t 2), none⟩,
     ⟨some 6, .load true 9 (.t 3), none⟩,
     ⟨some 7, .call 0 (.c (.fn 43 [])) [(.t 5), (.t 6)], none⟩,
     ⟨some 8, .not (.t 7), none⟩,
     ⟨some 4, .mv (.t 8), none⟩]) (
   .ret))))⟩

def a43 : AFunc := ⟨[.tmp 4],
 (.seq (
  .region [] [
    ⟨some 2, .box 1 (.t 0), none⟩,
    ⟨some 3, .box 2 (.t 1), none⟩,
    ⟨some 4, .mv (.c (.bool false)), none⟩]) (
  (.seq (
   .region [] [
     ⟨some 5, .fieldAddr 5 (.t 2), none⟩,
     ⟨some 6, .load true 4 (.t 5), none⟩,
     ⟨some 7, .fieldAddr 1 (.t 3), none⟩,
     ⟨some 8, .load true 4 (.t 7), none⟩,
     ⟨some 9, .call 0 (.c (.fn 15 [])) [(.t 6), (.t 8)], none⟩,
     ⟨some 10, .bin .leq (.t 9) (.c (.int .i64 0)), none⟩,
     ⟨some 11, .mv (.t 10), none⟩,
     ⟨some 12, .fieldAddr 5 (.t 3), some (11, false)⟩,
     ⟨some 13, .load true 4 (.t 12), some (11, false)⟩,
     ⟨some 14, .fieldAddr 1 (.t 2), some (11, false)⟩,
     ⟨some 15, .load true 4 (.t 14), some (11, false)⟩,
     ⟨some 16, .call 0 (.c (.fn 15 [])) [(.t 13), (.t 15)], some (11, false)⟩,
     ⟨some 17, .bin .leq (.t 16) (.c (.int .i64 0)), some (11, false)⟩,
     ⟨some 18, .pick (.t 11) (.c (.bool true)) (.t 17), none⟩,
     ⟨some 4, .mv (.t 18), none⟩]) (
   .ret))))⟩

def a44 : AFunc := ⟨[.tmp 4],
 (.seq (
  .region [] [
    ⟨some 2, .box 1 (.t 0), none⟩,
    ⟨some 3, .box 2 (.t 1), none⟩,
    ⟨some 4, .mv (.c (.bool false)), none⟩]) (
  (.seq (
   .region [] [
     ⟨some 5, .load true 9 (.t 2), none⟩,
     ⟨some 6, .load true 9 (.t 3), none⟩,
     ⟨some 7, .call 0 (.c (.fn 45 [])) [(.t 5), (.t 6)], none⟩,
     ⟨some 8, .not (.t 7), none⟩,
     ⟨some 4, .mv (.t 8), none⟩]) (
   .ret))))⟩

def a45 : AFunc := ⟨[.tmp 4],
 (.seq (
  .region [] [
    ⟨some 2, .box 1 (.t 0), none⟩,
    ⟨some 3, .box 2 (.t 1), none⟩,
    ⟨some 4, .mv (.c (.bool false)), none⟩]) (
  (.seq (
   .region [] [
     ⟨some 5, .fieldAddr 5 (.t 2), none⟩,
     ⟨some 6, .load true 4 (.t 5), none⟩,
     ⟨some 7, .fieldAddr 1 (.t 3), none⟩,
     ⟨some 8, .load true 4 (.t 7), none⟩,
     ⟨some 9, .call 0 (.c (.fn 15 [])) [(.t 6), (.t 8)], none⟩,
     ⟨some 10, .bin .lss (.t 9) (.c (.int .i64 0)), none⟩,
     ⟨some 11, .mv (.t 10), none⟩,
     ⟨some 12, .fieldAddr 5 (.t 3), some (11, false)⟩,
     ⟨some 13, .load true 4 (.t 12), some (11, false)⟩,
     ⟨some 14, .fieldAddr 1 (.t 2), some (11, false)⟩,
     ⟨some 15, .load true 4 (.t 14), some (11, false)⟩,
     ⟨some 16, .call 0 (.c (.fn 15 [])) [(.t 13), (.t 15)], some (11, false)⟩,
     ⟨some 17, .bin .lss (.t 16) (.c (.int .i64 0)), some (11, false)⟩,
     ⟨some 18, .pick (.t 11) (.c (.bool true)) (.t 17), none⟩,
     ⟨some 4, .mv (.t 18), none⟩]) (
   .ret))))⟩

def a46 : AFunc := ⟨[.tmp 4],
 (.seq (
  .region [] [
    ⟨some 2, .box 1 (.t 0), none⟩,
    ⟨some 3, .box 2 (.t 1), none⟩,
    ⟨some 4, .mv (.c (.bool false)), none⟩]) (
  (.seq (
   .region [] [
     ⟨some 5, .load true 9 (.t 2), none⟩,
     ⟨some 6, .load true 9 (.t 3), none⟩,
     ⟨some 7, .call 0 (.c (.fn 43 [])) [(.t 5), (.t 6)], none⟩,
     ⟨some 8, .not (.t 7), none⟩,
     ⟨some 9, .mv (.t 8), none⟩,
     ⟨some 10, .load true 9 (.t 2), some (9, true)⟩,
     ⟨some 11, .load true 9 (.t 3), some (9, true)⟩,
     ⟨some 12, .call 0 (.c (.fn 59 [])) [(.t 10), (.t 11)], some (9, true)⟩,
     ⟨some 13, .load true 9 (.t 3), some (9, true)⟩,
     ⟨some 14, .load true 9 (.t 2), some (9, true)⟩,
     ⟨some 15, .call 0 (.c (.fn 59 [])) [(.t 13), (.t 14)], some (9, true)⟩,
     ⟨some 16, .eqb false (.t 12) (.t 15), some (9, true)⟩,
     ⟨some 17, .pick (.t 9) (.t 16) (.c (.bool false)), none⟩,
     ⟨some 4, .mv (.t 17), none⟩]) (
   .ret))))⟩

def a47 : AFunc := ⟨[.tmp 4],
 (.seq (
  .region [] [
    ⟨some 4, .mv (.c (.bool false)), none⟩]) (
  (.seq (
   .region [] [
     ⟨some 5, .mv (.t 0), none⟩,
     ⟨some 6, .mv (.t 1), none⟩,
     ⟨some 7, .call 0 (.c (.fn 60 [])) [(.t 5), (.t 6)], none⟩,
     ⟨some 8, .bin .geq (.t 7) (.c (.int .i64 0)), none⟩,
     ⟨some 4, .mv (.t 8), none⟩]) (
   .ret))))⟩

def a48 : AFunc := ⟨[.tmp 3],
 (.seq (
  .region [] [
    ⟨some 2, .box 1 (.t 0), none⟩,
    ⟨some 3, .mv (.c (.bool false)), none⟩]) (
  (.seq (
   .region [] [
     ⟨some 4, .load true 9 (.t 2), none⟩,
     ⟨some 5, .load true 9 (.t 1), none⟩,
     ⟨some 6, .call 0 (.c (.fn 19 [])) [(.t 4), (.t 5)], none⟩,
     ⟨some 3, .mv (.t 6), none⟩]) (
   .ret))))⟩

def a49 : AFunc := ⟨[.cell 0 true 7],
 (.seq (
  .region [] [
    ⟨some 0, .alloc 1 [(.str ⟨#[]⟩), (.str ⟨#[]⟩), (.str ⟨#[]⟩), (.str ⟨#[]⟩), (.str ⟨#[]⟩), (.str ⟨#[]⟩), (.str ⟨#[]⟩)], none⟩]) (
  (.seq (
   .region [] [
     ⟨some 1, .build [(.str ⟨#[]⟩), (.str ⟨#[]⟩), (.str ⟨#[]⟩), (.str ⟨#[]⟩), (.str ⟨#[]⟩), (.str ⟨#[]⟩), (.str ⟨#[]⟩)] [(0, 1, (.c (.str ⟨#[115, 108, 117, 114]⟩))), (1, 1, (.c (.str ⟨#[99, 114, 101, 115, 99, 101, 110, 100, 111]⟩))), (2, 1, (.c (.str ⟨#[100, 105, 109, 105, 110, 117, 101, 110, 100, 111]⟩))), (3, 1, (.c (.str ⟨#[56, 118, 97]⟩))), (4, 1, (.c (.str ⟨#[56, 118, 98]⟩))), (5, 1, (.c (.str ⟨#[112, 101, 100, 97, 108]⟩))), (6, 1, (.c (.str ⟨#[116, 114, 105, 108, 108]⟩)))], none⟩,
     ⟨none, .store 7 (.t 0) (.t 1), none⟩]) (
   .ret))))⟩

def a50 : AFunc := ⟨[.tmp 4],
 (.seq (
  .region [] [
    ⟨some 4, .mv (.c .nilsl), none⟩]) (
  (.seq (
   .region [] [
     ⟨some 5, .mv (.c .nilsl), none⟩]) (
   (.seq (
    (.seq (
     .region [] [
       ⟨some 8, .mv (.t 0), none⟩,
       ⟨some 9, .len (.t 8), none⟩,
       ⟨some 10, .mv (.c (.int .i64 0)), none⟩]) (
     (.block 0 (
      (.loop (
       (.seq (
        .region [] [
          ⟨some 11, .bin .lss (.t 10) (.t 9), none⟩]) (
        (.seq (
         (.cond (.t 11) (
          .skip) (
          .exit 0))) (
         (.seq (
          (.block 1 (
           (.seq (
            .region [] [
              ⟨some 12, .mv (.t 10), none⟩,
              ⟨some 13, .elemAddr 9 (.t 8) (.t 10), none⟩,
              ⟨some 14, .load true 9 (.t 13), none⟩,
              ⟨some 7, .alloc 1 [(.int .i64 0), (.int .i64 0), (.int .i64 0), (.int .i64 0), (.int .i64 0), (.int .i64 0), (.int .i64 0), (.int .i64 0), (.int .i64 0)], none⟩,
              ⟨some 6, .mv (.t 12), none⟩,
              ⟨none, .store 9 (.t 7) (.t 14), none⟩]) (
            (.seq (
             .region [] [
               ⟨some 15, .mv (.t 1), none⟩,
               ⟨some 16, .load true 9 (.t 7), none⟩,
               ⟨some 17, .call 0 (.t 15) [(.t 16)], none⟩]) (
             (.cond (.t 17) (
              .region [] [
                ⟨some 18, .mv (.t 5), none⟩,
                ⟨some 19, .mv (.t 6), none⟩,
                ⟨some 20, .lit 1 [(.int .i64 0)] 1 [(0, 1, (.t 19))], none⟩,
                ⟨some 21, .app 2 1 8 (.t 18) (.t 20), none⟩,
                ⟨some 5, .mv (.t 21), none⟩]) (
              .skip))))))))) (
          .region [] [
            ⟨some 22, .bin .add (.t 10) (.c (.int .i64 1)), none⟩,
            ⟨some 10, .mv (.t 22), none⟩]))))))))))))) (
    (.seq (
     .region [] [
       ⟨some 23, .mv (.t 5), none⟩,
       ⟨some 4, .mv (.t 23), none⟩]) (
     .ret))))))))⟩

def a51 : AFunc := ⟨[.tmp 4],
 (.seq (
  .region [] [
    ⟨some 3, .box 1 (.t 0), none⟩,
    ⟨some 4, .mv (.c (.bool false)), none⟩]) (
  (.seq (
   .region [] [
     ⟨some 5, .fieldAddr 0 (.t 3), none⟩,
     ⟨some 6, .load false 1 (.t 5), none⟩,
     ⟨some 7, .load false 1 (.t 1), none⟩,
     ⟨some 8, .bin .eql (.t 6) (.t 7), none⟩,
     ⟨some 9, .mv (.t 8), none⟩,
     ⟨some 10, .load true 9 (.t 3), some (9, true)⟩,
     ⟨some 11, .load true 4 (.t 2), some (9, true)⟩,
     ⟨some 12, .call 0 (.c (.fn 52 [])) [(.t 10), (.t 11)], some (9, true)⟩,
     ⟨some 13, .pick (.t 9) (.t 12) (.c (.bool false)), none⟩,
     ⟨some 4, .mv (.t 13), none⟩]) (
   .ret))))⟩

def a52 : AFunc := ⟨[.tmp 4],
 (.seq (
  .region [] [
    ⟨some 2, .box 1 (.t 0), none⟩,
    ⟨some 3, .box 2 (.t 1), none⟩,
    ⟨some 4, .mv (.c (.bool false)), none⟩]) (
  (.seq (
   .region [] [
     ⟨some 5, .fieldAddr 1 (.t 2), none⟩,
     ⟨some 6, .fieldAddr 2 (.t 5), none⟩,
     ⟨some 7, .load false 1 (.t 6), none⟩,
     ⟨some 8, .fieldAddr 2 (.t 3), none⟩,
     ⟨some 9, .load false 1 (.t 8), none⟩,
     ⟨some 10, .bin .eql (.t 7) (.t 9), none⟩,
     ⟨some 11, .mv (.t 10), none⟩,
     ⟨some 12, .fieldAddr 0 (.t 2), some (11, true)⟩,
     ⟨some 13, .load false 1 (.t 12), some (11, true)⟩,
     ⟨some 14, .call 0 (.c (.fn 34 [])) [(.t 13)], some (11, true)⟩,
     ⟨some 15, .not (.t 14), some (11, true)⟩,
     ⟨some 16, .mv (.t 15), some (11, true)⟩,
     ⟨some 17, .fieldAddr 1 (.t 2), some (16, false)⟩,
     ⟨some 18, .fieldAddr 3 (.t 17), some (16, false)⟩,
     ⟨some 19, .load false 1 (.t 18), some (16, false)⟩,
     ⟨some 20, .fieldAddr 3 (.t 3), some (16, false)⟩,
     ⟨some 21, .load false 1 (.t 20), some (16, false)⟩,
     ⟨some 22, .bin .eql (.t 19) (.t 21), some (16, false)⟩,
     ⟨some 23, .pick (.t 16) (.c (.bool true)) (.t 22), some (11, true)⟩,
     ⟨some 24, .pick (.t 11) (.t 23) (.c (.bool false)), none⟩,
     ⟨some 25, .mv (.t 24), none⟩,
     ⟨some 26, .load true 4 (.t 3), some (25, true)⟩,
     ⟨some 27, .fieldAddr 1 (.t 2), some (25, true)⟩,
     ⟨some 28, .load true 4 (.t 27), some (25, true)⟩,
     ⟨some 29, .call 0 (.c (.fn 15 [])) [(.t 26), (.t 28)], some (25, true)⟩,
     ⟨some 30, .bin .geq (.t 29) (.c (.int .i64 0)), some (25, true)⟩,
     ⟨some 31, .pick (.t 25) (.t 30) (.c (.bool false)), none⟩,
     ⟨some 32, .mv (.t 31), none⟩,
     ⟨some 33, .fieldAddr 5 (.t 2), some (32, true)⟩,
     ⟨some 34, .load true 4 (.t 33), some (32, true)⟩,
     ⟨some 35, .load true 4 (.t 3), some (32, true)⟩,
     ⟨some 36, .call 0 (.c (.fn 15 [])) [(.t 34), (.t 35)], some (32, true)⟩,
     ⟨some 37, .bin .geq (.t 36) (.c (.int .i64 0)), some (32, true)⟩,
     ⟨some 38, .pick (.t 32) (.t 37) (.c (.bool false)), none⟩,
     ⟨some 4, .mv (.t 38), none⟩]) (
   .ret))))⟩

def a53 : AFunc := ⟨[.tmp 3],
 (.seq (
  .region [] [
    ⟨some 2, .box 1 (.t 0), none⟩,
    ⟨some 3, .mv (.c (.bool false)), none⟩]) (
  (.seq (
   .region [] [
     ⟨some 4, .fieldAddr 1 (.t 2), none⟩,
     ⟨some 5, .fieldAddr 0 (.t 4), none⟩,
     ⟨some 6, .load false 1 (.t 5), none⟩,
     ⟨some 7, .load false 1 (.t 1), none⟩,
     ⟨some 8, .bin .leq (.t 6) (.t 7), none⟩,
     ⟨some 9, .mv (.t 8), none⟩,
     ⟨some 10, .load false 1 (.t 1), some (9, true)⟩,
     ⟨some 11, .fieldAddr 5 (.t 2), some (9, true)⟩,
     ⟨some 12, .fieldAddr 0 (.t 11), some (9, true)⟩,
     ⟨some 13, .load false 1 (.t 12), some (9, true)⟩,
     ⟨some 14, .bin .leq (.t 10) (.t 13), some (9, true)⟩,
     ⟨some 15, .pick (.t 9) (.t 14) (.c (.bool false)), none⟩,
     ⟨some 3, .mv (.t 15), none⟩]) (
   .ret))))⟩

def a54 : AFunc := ⟨[.tmp 2],
 (.seq (
  .region [] [
    ⟨some 2, .mv (.c (.int .i64 0)), none⟩]) (
  (.seq (
   (.seq (
    .region [] [
      ⟨some 3, .mv (.t 0), none⟩,
      ⟨some 4, .bin .lss (.t 3) (.c (.int .i64 1)), none⟩,
      ⟨some 5, .mv (.t 4), none⟩,
      ⟨some 6, .mv (.t 0), some (5, false)⟩,
      ⟨some 7, .bin .gtr (.t 6) (.c (.int .i64 7)), some (5, false)⟩,
      ⟨some 8, .pick (.t 5) (.c (.bool true)) (.t 7), none⟩]) (
    (.cond (.t 8) (
     (.seq (
      .region [] [
        ⟨some 2, .mv (.c (.int .i64 0)), none⟩]) (
      .ret))) (
     .skip))))) (
   (.seq (
    .region [] [
      ⟨some 9, .build [(.int .i64 0), (.int .i64 0), (.int .i64 0), (.int .i64 0), (.int .i64 0), (.int .i64 0), (.int .i64 0)] [(0, 1, (.c (.int .i64 1))), (1, 1, (.c (.int .i64 2))), (2, 1, (.c (.int .i64 2))), (3, 1, (.c (.int .i64 4))), (4, 1, (.c (.int .i64 4))), (5, 1, (.c (.int .i64 6))), (6, 1, (.c (.int .i64 7)))], none⟩,
      ⟨some 10, .mv (.t 0), none⟩,
      ⟨some 11, .bin .sub (.t 10) (.c (.int .i64 1)), none⟩,
      ⟨some 12, .idx 7 1 false (.t 9) (.t 11), none⟩,
      ⟨some 2, .mv (.t 12), none⟩]) (
    .ret))))))⟩

def a55 : AFunc := ⟨[.tmp 2],
 (.seq (
  .region [] [
    ⟨some 2, .mv (.c .nilsl), none⟩]) (
  (.seq (
   .region [] [
     ⟨some 3, .mv (.t 0), none⟩,
     ⟨some 4, .call 0 (.c (.fn 61 [])) [(.c .nilsl), (.t 3)], none⟩,
     ⟨some 2, .mv (.t 4), none⟩]) (
   .ret))))⟩

def a56 : AFunc := ⟨[.tmp 4],
 (.seq (
  .region [] [
    ⟨some 2, .box 1 (.t 0), none⟩,
    ⟨some 3, .box 2 (.t 1), none⟩,
    ⟨some 4, .mv (.c .nilfn), none⟩]) (
  (.seq (
   .region [] [
     ⟨some 5, .mkfn 62 [(.t 3), (.t 2)], none⟩,
     ⟨some 4, .mv (.t 5), none⟩]) (
   .ret))))⟩

def a57 : AFunc := ⟨[.tmp 4],
 (.seq (
  .region [] [
    ⟨some 4, .mv (.c (.bool false)), none⟩]) (
  (.seq (
   .region [] [
     ⟨some 5, .mv (.t 0), none⟩,
     ⟨some 6, .bin .geq (.t 5) (.c (.int .i64 0)), none⟩,
     ⟨some 7, .mv (.t 6), none⟩,
     ⟨some 8, .mv (.t 0), some (7, true)⟩,
     ⟨some 9, .mv (.t 1), some (7, true)⟩,
     ⟨some 10, .bin .leq (.t 8) (.t 9), some (7, true)⟩,
     ⟨some 11, .pick (.t 7) (.t 10) (.c (.bool false)), none⟩,
     ⟨some 4, .mv (.t 11), none⟩]) (
   .ret))))⟩

def a58 : AFunc := ⟨[.tmp 2],
 (.seq (
  .region [] [
    ⟨some 2, .mv (.c (.bool false)), none⟩]) (
  (.seq (
   .region [] [
     ⟨some 3, .mv (.t 0), none⟩,
     ⟨some 4, .mv (.t 0), none⟩,
     ⟨some 5, .bin .neq (.t 3) (.t 4), none⟩,
     ⟨some 2, .mv (.t 5), none⟩]) (
   .ret))))⟩

def a59 : AFunc := ⟨[.tmp 4],
 (.seq (
  .region [] [
    ⟨some 2, .box 1 (.t 0), none⟩,
    ⟨some 3, .box 2 (.t 1), none⟩,
    ⟨some 4, .mv (.c (.bool false)), none⟩]) (
  (.seq (
   .region [] [
     ⟨some 5, .fieldAddr 1 (.t 2), none⟩,
     ⟨some 6, .load true 4 (.t 5), none⟩,
     ⟨some 7, .fieldAddr 1 (.t 3), none⟩,
     ⟨some 8, .load true 4 (.t 7), none⟩,
     ⟨some 9, .call 0 (.c (.fn 15 [])) [(.t 6), (.t 8)], none⟩,
     ⟨some 10, .bin .geq (.t 9) (.c (.int .i64 0)), none⟩,
     ⟨some 11, .mv (.t 10), none⟩,
     ⟨some 12, .fieldAddr 5 (.t 2), some (11, true)⟩,
     ⟨some 13, .load true 4 (.t 12), some (11, true)⟩,
     ⟨some 14, .fieldAddr 5 (.t 3), some (11, true)⟩,
     ⟨some 15, .load true 4 (.t 14), some (11, true)⟩,
     ⟨some 16, .call 0 (.c (.fn 15 [])) [(.t 13), (.t 15)], some (11, true)⟩,
     ⟨some 17, .bin .leq (.t 16) (.c (.int .i64 0)), some (11, true)⟩,
     ⟨some 18, .pick (.t 11) (.t 17) (.c (.bool false)), none⟩,
     ⟨some 4, .mv (.t 18), none⟩]) (
   .ret))))⟩

def a60 : AFunc := ⟨[.tmp 4],
 (.seq (
  .region [] [
    ⟨some 4, .mv (.c (.int .i64 0)), none⟩]) (
  (.seq (
   (.seq (
    .region [] [
      ⟨some 6, .mv (.t 0), none⟩,
      ⟨some 7, .len (.t 6), none⟩,
      ⟨some 8, .mv (.c (.int .i64 0)), none⟩]) (
    (.block 0 (
     (.loop (
      (.seq (
       .region [] [
         ⟨some 9, .bin .lss (.t 8) (.t 7), none⟩]) (
       (.seq (
        (.cond (.t 9) (
         .skip) (
         .exit 0))) (
        (.seq (
         (.block 1 (
          (.seq (
           .region [] [
             ⟨some 10, .mv (.t 8), none⟩,
             ⟨some 5, .mv (.t 10), none⟩]) (
           (.seq (
            .region [] [
              ⟨some 11, .mv (.t 1), none⟩,
              ⟨some 12, .mv (.t 0), none⟩,
              ⟨some 13, .mv (.t 5), none⟩,
              ⟨some 14, .elemAddr 9 (.t 12) (.t 13), none⟩,
              ⟨some 15, .load true 9 (.t 14), none⟩,
              ⟨some 16, .call 0 (.t 11) [(.t 15)], none⟩]) (
            (.cond (.t 16) (
             (.seq (
              .region [] [
                ⟨some 17, .mv (.t 5), none⟩,
                ⟨some 4, .mv (.t 17), none⟩]) (
              .ret))) (
             .skip))))))))) (
         .region [] [
           ⟨some 18, .bin .add (.t 8) (.c (.int .i64 1)), none⟩,
           ⟨some 8, .mv (.t 18), none⟩]))))))))))))) (
   (.seq (
    .region [] [
      ⟨some 4, .mv (.c (.int .i64 (-1))), none⟩]) (
    .ret))))))⟩

def a62 : AFunc := ⟨[],
 (.seq (
  .region [] [
    ⟨some 8, .load false 1 (.t 1), none⟩,
    ⟨some 9, .len (.t 8), none⟩,
    ⟨some 10, .mv (.c (.int .i64 0)), none⟩]) (
  (.block 0 (
   (.loop (
    (.seq (
     .region [] [
       ⟨some 11, .bin .lss (.t 10) (.t 9), none⟩]) (
     (.seq (
      (.cond (.t 11) (
       .skip) (
       .exit 0))) (
      (.seq (
       (.block 1 (
        (.seq (
         .region [] [
           ⟨some 12, .mv (.t 10), none⟩,
           ⟨some 13, .elemAddr 1 (.t 8) (.t 10), none⟩,
           ⟨some 14, .load false 1 (.t 13), none⟩,
           ⟨some 4, .mv (.t 12), none⟩,
           ⟨some 5, .mv (.t 14), none⟩]) (
         (.seq (
          .region [] [
            ⟨some 6, .mv (.c (.int .i64 9223372036854775807)), none⟩]) (
          (.seq (
           (.seq (
            .region [] [
              ⟨some 15, .mv (.t 4), none⟩,
              ⟨some 16, .bin .add (.t 15) (.c (.int .i64 1)), none⟩,
              ⟨some 17, .load false 1 (.t 1), none⟩,
              ⟨some 18, .len (.t 17), none⟩,
              ⟨some 19, .bin .lss (.t 16) (.t 18), none⟩]) (
            (.cond (.t 19) (
             .region [] [
               ⟨some 20, .load false 1 (.t 1), none⟩,
               ⟨some 21, .mv (.t 4), none⟩,
               ⟨some 22, .bin .add (.t 21) (.c (.int .i64 1)), none⟩,
               ⟨some 23, .elemAddr 1 (.t 20) (.t 22), none⟩,
               ⟨some 24, .load false 1 (.t 23), none⟩,
               ⟨some 25, .bin .sub (.t 24) (.c (.int .i64 1)), none⟩,
               ⟨some 6, .mv (.t 25), none⟩]) (
             .skip))))) (
           (.seq (
            .region [] [
              ⟨some 26, .mv (.t 4), none⟩,
              ⟨some 27, .mv (.t 5), none⟩,
              ⟨some 28, .fieldAddr 1 (.t 2), none⟩,
              ⟨some 29, .fieldAddr 0 (.t 28), none⟩,
              ⟨some 30, .load false 1 (.t 29), none⟩,
              ⟨some 31, .mm true [(.t 27), (.t 30)], none⟩,
              ⟨some 32, .mv (.t 6), none⟩,
              ⟨some 33, .fieldAddr 5 (.t 2), none⟩,
              ⟨some 34, .fieldAddr 0 (.t 33), none⟩,
              ⟨some 35, .load false 1 (.t 34), none⟩,
              ⟨some 36, .mm false [(.t 32), (.t 35)], none⟩,
              ⟨some 37, .build [(.int .i64 0), (.int .i64 0), (.int .i64 0), (.bool false), (.bool false)] [(0, 1, (.t 26)), (1, 1, (.t 31)), (2, 1, (.t 36))], none⟩,
              ⟨some 7, .alloc 1 [(.int .i64 0), (.int .i64 0), (.int .i64 0), (.bool false), (.bool false)], none⟩,
              ⟨none, .store 5 (.t 7) (.t 37), none⟩]) (
            (.seq (
             .region [] [
               ⟨some 38, .fieldAddr 1 (.t 7), none⟩,
               ⟨some 39, .load false 1 (.t 38), none⟩,
               ⟨some 40, .fieldAddr 1 (.t 2), none⟩,
               ⟨some 41, .fieldAddr 0 (.t 40), none⟩,
               ⟨some 42, .load false 1 (.t 41), none⟩,
               ⟨some 43, .bin .eql (.t 39) (.t 42), none⟩,
               ⟨some 44, .fieldAddr 2 (.t 7), none⟩,
               ⟨some 45, .load false 1 (.t 44), none⟩,
               ⟨some 46, .fieldAddr 5 (.t 2), none⟩,
               ⟨some 47, .fieldAddr 0 (.t 46), none⟩,
               ⟨some 48, .load false 1 (.t 47), none⟩,
               ⟨some 49, .bin .eql (.t 45) (.t 48), none⟩,
               ⟨some 50, .fieldAddr 3 (.t 7), none⟩,
               ⟨none, .store 1 (.t 50) (.t 43), none⟩,
               ⟨some 51, .fieldAddr 4 (.t 7), none⟩,
               ⟨none, .store 1 (.t 51) (.t 49), none⟩]) (
             (.seq (
              .region [] [
                ⟨some 52, .fieldAddr 1 (.t 7), none⟩,
                ⟨some 53, .load false 1 (.t 52), none⟩,
                ⟨some 54, .fieldAddr 2 (.t 7), none⟩,
                ⟨some 55, .load false 1 (.t 54), none⟩,
                ⟨some 56, .bin .leq (.t 53) (.t 55), none⟩,
                ⟨some 57, .mv (.t 56), none⟩,
                ⟨some 58, .mv (.t 0), some (57, true)⟩,
                ⟨some 59, .load true 5 (.t 7), some (57, true)⟩,
                ⟨some 60, .call 0 (.t 58) [(.t 59)], some (57, true)⟩,
                ⟨some 61, .not (.t 60), some (57, true)⟩,
                ⟨some 62, .pick (.t 57) (.t 61) (.c (.bool false)), none⟩]) (
              (.cond (.t 62) (
               .ret) (
               .skip))))))))))))))))) (
       .region [] [
         ⟨some 63, .bin .add (.t 10) (.c (.int .i64 1)), none⟩,
         ⟨some 10, .mv (.t 63), none⟩]))))))))))))⟩


def tblF : FuncId → Option AFunc := fun f =>
  match f with
  | 2 => some a2
  | 3 => some a3
  | 4 => some a4
  | 5 => some a5
  | 6 => some a6
  | 7 => some a7
  | 8 => some a8
  | 9 => some a9
  | 10 => some a10
  | 11 => some a11
  | 12 => some a12
  | 13 => some a13
  | 14 => some a14
  | 15 => some a15
  | 16 => some a16
  | 17 => some a17
  | 18 => some a18
  | 19 => some a19
  | 20 => some a20
  | 21 => some a21
  | 22 => some a22
  | 23 => some a23
  | 24 => some a24
  | 25 => some a25
  | 26 => some a26
  | 27 => some a27
  | 28 => some a28
  | 29 => some a29
  | 30 => some a30
  | 31 => some a31
  | 32 => some a32
  | 33 => some a33
  | 34 => some a34
  | 35 => some a35
  | 36 => some a36
  | 37 => some a37
  | 38 => some a38
  | 39 => some a39
  | 40 => some a40
  | 41 => some a41
  | 42 => some a42
  | 43 => some a43
  | 44 => some a44
  | 45 => some a45
  | 46 => some a46
  | 47 => some a47
  | 48 => some a48
  | 49 => some a49
  | 50 => some a50
  | 51 => some a51
  | 52 => some a52
  | 53 => some a53
  | 54 => some a54
  | 55 => some a55
  | 56 => some a56
  | 57 => some a57
  | 58 => some a58
  | 59 => some a59
  | 60 => some a60
  | _ => none

def tbl : Tbl := ⟨tblF, fun _ _ => none⟩

theorem ok2 : cFunc Try.prog 0 Try.f2 = some a2 := by kernel_rfl
theorem ok3 : cFunc Try.prog 0 Try.f3 = some a3 := by kernel_rfl
theorem ok4 : cFunc Try.prog 0 Try.f4 = some a4 := by kernel_rfl
theorem ok5 : cFunc Try.prog 0 Try.f5 = some a5 := by kernel_rfl
theorem ok6 : cFunc Try.prog 0 Try.f6 = some a6 := by kernel_rfl
theorem ok7 : cFunc Try.prog 0 Try.f7 = some a7 := by kernel_rfl
theorem ok8 : cFunc Try.prog 0 Try.f8 = some a8 := by kernel_rfl
theorem ok9 : cFunc Try.prog 0 Try.f9 = some a9 := by kernel_rfl
theorem ok10 : cFunc Try.prog 0 Try.f10 = some a10 := by kernel_rfl
theorem ok11 : cFunc Try.prog 0 Try.f11 = some a11 := by kernel_rfl
theorem ok12 : cFunc Try.prog 0 Try.f12 = some a12 := by kernel_rfl
theorem ok13 : cFunc Try.prog 0 Try.f13 = some a13 := by kernel_rfl
theorem ok14 : cFunc Try.prog 0 Try.f14 = some a14 := by kernel_rfl
theorem ok15 : cFunc Try.prog 0 Try.f15 = some a15 := by kernel_rfl
theorem ok16 : cFunc Try.prog 0 Try.f16 = some a16 := by kernel_rfl
theorem ok17 : cFunc Try.prog 0 Try.f17 = some a17 := by kernel_rfl
theorem ok18 : cFunc Try.prog 0 Try.f18 = some a18 := by kernel_rfl
theorem ok19 : cFunc Try.prog 0 Try.f19 = some a19 := by kernel_rfl
theorem ok20 : cFunc Try.prog 0 Try.f20 = some a20 := by kernel_rfl
theorem ok21 : cFunc Try.prog 0 Try.f21 = some a21 := by kernel_rfl
theorem ok22 : cFunc Try.prog 0 Try.f22 = some a22 := by kernel_rfl
theorem ok23 : cFunc Try.prog 0 Try.f23 = some a23 := by kernel_rfl
theorem ok24 : cFunc Try.prog 0 Try.f24 = some a24 := by kernel_rfl
theorem ok25 : cFunc Try.prog 0 Try.f25 = some a25 := by kernel_rfl
theorem ok26 : cFunc Try.prog 0 Try.f26 = some a26 := by kernel_rfl
theorem ok27 : cFunc Try.prog 0 Try.f27 = some a27 := by kernel_rfl
theorem ok28 : cFunc Try.prog 0 Try.f28 = some a28 := by kernel_rfl
theorem ok29 : cFunc Try.prog 0 Try.f29 = some a29 := by kernel_rfl
theorem ok30 : cFunc Try.prog 0 Try.f30 = some a30 := by kernel_rfl
theorem ok31 : cFunc Try.prog 0 Try.f31 = some a31 := by kernel_rfl
theorem ok32 : cFunc Try.prog 0 Try.f32 = some a32 := by kernel_rfl
theorem ok33 : cFunc Try.prog 0 Try.f33 = some a33 := by kernel_rfl
theorem ok34 : cFunc Try.prog 0 Try.f34 = some a34 := by kernel_rfl
theorem ok35 : cFunc Try.prog 0 Try.f35 = some a35 := by kernel_rfl
theorem ok36 : cFunc Try.prog 0 Try.f36 = some a36 := by kernel_rfl
theorem ok37 : cFunc Try.prog 0 Try.f37 = some a37 := by kernel_rfl
theorem ok38 : cFunc Try.prog 0 Try.f38 = some a38 := by kernel_rfl
theorem ok39 : cFunc Try.prog 0 Try.f39 = some a39 := by kernel_rfl
theorem ok40 : cFunc Try.prog 0 Try.f40 = some a40 := by kernel_rfl
theorem ok41 : cFunc Try.prog 0 Try.f41 = some a41 := by kernel_rfl
theorem ok42 : cFunc Try.prog 0 Try.f42 = some a42 := by kernel_rfl
theorem ok43 : cFunc Try.prog 0 Try.f43 = some a43 := by kernel_rfl
theorem ok44 : cFunc Try.prog 0 Try.f44 = some a44 := by kernel_rfl
theorem ok45 : cFunc Try.prog 0 Try.f45 = some a45 := by kernel_rfl
theorem ok46 : cFunc Try.prog 0 Try.f46 = some a46 := by kernel_rfl
theorem ok47 : cFunc Try.prog 0 Try.f47 = some a47 := by kernel_rfl
theorem ok48 : cFunc Try.prog 0 Try.f48 = some a48 := by kernel_rfl
theorem ok49 : cFunc Try.prog 0 Try.f49 = some a49 := by kernel_rfl
theorem ok50 : cFunc Try.prog 0 Try.f50 = some a50 := by kernel_rfl
theorem ok51 : cFunc Try.prog 0 Try.f51 = some a51 := by kernel_rfl
theorem ok52 : cFunc Try.prog 0 Try.f52 = some a52 := by kernel_rfl
theorem ok53 : cFunc Try.prog 0 Try.f53 = some a53 := by kernel_rfl
theorem ok54 : cFunc Try.prog 0 Try.f54 = some a54 := by kernel_rfl
theorem ok55 : cFunc Try.prog 0 Try.f55 = some a55 := by kernel_rfl
theorem ok56 : cFunc Try.prog 0 Try.f56 = some a56 := by kernel_rfl
theorem ok57 : cFunc Try.prog 0 Try.f57 = some a57 := by kernel_rfl
theorem ok58 : cFunc Try.prog 0 Try.f58 = some a58 := by kernel_rfl
theorem ok59 : cFunc Try.prog 0 Try.f59 = some a59 := by kernel_rfl
theorem ok60 : cFunc Try.prog 0 Try.f60 = some a60 := by kernel_rfl

theorem tblF_ok (pr : FuncId → List V → Option V) : TblOk Try.prog ⟨tblF, pr⟩ := by
  intro f af h
  change tblF f = some af at h
  unfold tblF at h
  split at h
  · cases h; exact ⟨_, _, Try.func2, ok2⟩
  · cases h; exact ⟨_, _, Try.func3, ok3⟩
  · cases h; exact ⟨_, _, Try.func4, ok4⟩
  · cases h; exact ⟨_, _, Try.func5, ok5⟩
  · cases h; exact ⟨_, _, Try.func6, ok6⟩
  · cases h; exact ⟨_, _, Try.func7, ok7⟩
  · cases h; exact ⟨_, _, Try.func8, ok8⟩
  · cases h; exact ⟨_, _, Try.func9, ok9⟩
  · cases h; exact ⟨_, _, Try.func10, ok10⟩
  · cases h; exact ⟨_, _, Try.func11, ok11⟩
  · cases h; exact ⟨_, _, Try.func12, ok12⟩
  · cases h; exact ⟨_, _, Try.func13, ok13⟩
  · cases h; exact ⟨_, _, Try.func14, ok14⟩
  · cases h; exact ⟨_, _, Try.func15, ok15⟩
  · cases h; exact ⟨_, _, Try.func16, ok16⟩
  · cases h; exact ⟨_, _, Try.func17, ok17⟩
  · cases h; exact ⟨_, _, Try.func18, ok18⟩
  · cases h; exact ⟨_, _, Try.func19, ok19⟩
  · cases h; exact ⟨_, _, Try.func20, ok20⟩
  · cases h; exact ⟨_, _, Try.func21, ok21⟩
  · cases h; exact ⟨_, _, Try.func22, ok22⟩
  · cases h; exact ⟨_, _, Try.func23, ok23⟩
  · cases h; exact ⟨_, _, Try.func24, ok24⟩
  · cases h; exact ⟨_, _, Try.func25, ok25⟩
  · cases h; exact ⟨_, _, Try.func26, ok26⟩
  · cases h; exact ⟨_, _, Try.func27, ok27⟩
  · cases h; exact ⟨_, _, Try.func28, ok28⟩
  · cases h; exact ⟨_, _, Try.func29, ok29⟩
  · cases h; exact ⟨_, _, Try.func30, ok30⟩
  · cases h; exact ⟨_, _, Try.func31, ok31⟩
  · cases h; exact ⟨_, _, Try.func32, ok32⟩
  · cases h; exact ⟨_, _, Try.func33, ok33⟩
  · cases h; exact ⟨_, _, Try.func34, ok34⟩
  · cases h; exact ⟨_, _, Try.func35, ok35⟩
  · cases h; exact ⟨_, _, Try.func36, ok36⟩
  · cases h; exact ⟨_, _, Try.func37, ok37⟩
  · cases h; exact ⟨_, _, Try.func38, ok38⟩
  · cases h; exact ⟨_, _, Try.func39, ok39⟩
  · cases h; exact ⟨_, _, Try.func40, ok40⟩
  · cases h; exact ⟨_, _, Try.func41, ok41⟩
  · cases h; exact ⟨_, _, Try.func42, ok42⟩
  · cases h; exact ⟨_, _, Try.func43, ok43⟩
  · cases h; exact ⟨_, _, Try.func44, ok44⟩
  · cases h; exact ⟨_, _, Try.func45, ok45⟩
  · cases h; exact ⟨_, _, Try.func46, ok46⟩
  · cases h; exact ⟨_, _, Try.func47, ok47⟩
  · cases h; exact ⟨_, _, Try.func48, ok48⟩
  · cases h; exact ⟨_, _, Try.func49, ok49⟩
  · cases h; exact ⟨_, _, Try.func50, ok50⟩
  · cases h; exact ⟨_, _, Try.func51, ok51⟩
  · cases h; exact ⟨_, _, Try.func52, ok52⟩
  · cases h; exact ⟨_, _, Try.func53, ok53⟩
  · cases h; exact ⟨_, _, Try.func54, ok54⟩
  · cases h; exact ⟨_, _, Try.func55, ok55⟩
  · cases h; exact ⟨_, _, Try.func56, ok56⟩
  · cases h; exact ⟨_, _, Try.func57, ok57⟩
  · cases h; exact ⟨_, _, Try.func58, ok58⟩
  · cases h; exact ⟨_, _, Try.func59, ok59⟩
  · cases h; exact ⟨_, _, Try.func60, ok60⟩
  · cases h

theorem mixed : Try.prog.follows .mixedOrders = true := by kernel_rfl

theorem sound : SoundCall Try.prog (call tbl) := call_sound mixed (tblF_ok _) prOk_none

end Go.Proofs.Ytfngllcjikmbkaa
