/- LIBRARY: the code of functions, by their names -/
import Derived.Test.YtmdlpepjodcjeaaLib0
namespace Go.Eng
set_option linter.unusedSimpArgs false
set_option linter.unnecessarySimpa false
open Go
set_option linter.unusedVariables false
set_option maxRecDepth 10000

def z11_58867 : List AV := [(.int .i64 0), (.int .i64 0), (.int .i64 0), (.int .i64 0), (.int .i64 0), (.int .i64 0), (.int .i64 0), (.int .i64 0), (.int .i64 0), (.int .i64 0), (.int .i64 0)]
def z131_45020 : List AV := [(.bool false), (.int .i64 0), (.int .i64 0), (.int .i64 0), (.int .i64 0), (.int .i64 0), (.int .i64 0), (.int .i64 0), (.int .i64 0), (.int .i64 0), (.int .i64 0), (.bool false), (.bool false), (.bool false), (.int .i64 0), (.int .i64 0), (.int .i64 0), (.int .i64 0), (.int .i64 0), (.int .i64 0), (.int .i64 0), (.int .i64 0), (.int .i64 0), (.int .i64 0), (.bool false), (.bool false), (.bool false), (.int .i64 0), (.int .i64 0), (.int .i64 0), (.int .i64 0), (.int .i64 0), (.int .i64 0), (.int .i64 0), (.int .i64 0), (.int .i64 0), (.int .i64 0), (.bool false), (.bool false), (.bool false), (.int .i64 0), (.int .i64 0), (.int .i64 0), (.int .i64 0), (.int .i64 0), (.int .i64 0), (.int .i64 0), (.int .i64 0), (.int .i64 0), (.int .i64 0), (.bool false), (.bool false), (.bool false), (.int .i64 0), (.int .i64 0), (.int .i64 0), (.int .i64 0), (.int .i64 0), (.int .i64 0), (.int .i64 0), (.int .i64 0), (.int .i64 0), (.int .i64 0), (.bool false), (.bool false), (.bool false), (.int .i64 0), (.int .i64 0), (.int .i64 0), (.int .i64 0), (.int .i64 0), (.int .i64 0), (.int .i64 0), (.int .i64 0), (.int .i64 0), (.int .i64 0), (.bool false), (.bool false), (.bool false), (.int .i64 0), (.int .i64 0), (.int .i64 0), (.int .i64 0), (.int .i64 0), (.int .i64 0), (.int .i64 0), (.int .i64 0), (.int .i64 0), (.int .i64 0), (.bool false), (.bool false), (.bool false), (.int .i64 0), (.int .i64 0), (.int .i64 0), (.int .i64 0), (.int .i64 0), (.int .i64 0), (.int .i64 0), (.int .i64 0), (.int .i64 0), (.int .i64 0), (.bool false), (.bool false), .nils, (.int .i64 0), (.int .i64 0), (.int .i64 0), (.int .i64 0), (.int .i64 0), (.int .i64 0), (.int .i64 0), (.int .i64 0), .nils, .nils, .nils, (.int .i64 0), (.int .i64 0), (.int .i64 0), (.int .i64 0), (.int .i64 0), (.int .i64 0), (.int .i64 0), (.int .i64 0), (.int .i64 0), (.int .i64 0), (.int .i64 0), (.int .i64 0), (.int .i64 0), (.int .i64 0), (.int .i64 0)]
def z13_14216 : List AV := [(.bool false), (.int .i64 0), (.int .i64 0), (.int .i64 0), (.int .i64 0), (.int .i64 0), (.int .i64 0), (.int .i64 0), (.int .i64 0), (.int .i64 0), (.int .i64 0), (.bool false), (.bool false)]

/-- crossbuck/crossbucklaw15.CallsKept -/
def cc_law15_CallsKept (f_law00_Table f_ref08_On f_calls_Step f_calls_Want f_law15_awake : Nat) : CFn := ⟨121, [.tmp 4],
  .seq (.reg [
    ⟨(some 4), .mv (.k (.bool false)), none⟩])
  (.seq (.reg [
    ⟨(some 14), .mv (.t 0), none⟩,
    ⟨(some 15), .call f_law00_Table [(.t 14)], none⟩,
    ⟨(some 5), .alloc z131_45020, none⟩,
    ⟨none, .st (.t 5) (.t 15) 131, none⟩])
  (.seq (.reg [
    ⟨(some 16), .ld (.t 5) (some 131), none⟩,
    ⟨(some 17), .call f_ref08_On [(.t 16)], none⟩,
    ⟨(some 6), .mv (.t 17), none⟩])
  (.seq (.reg [
    ⟨(some 7), .alloc [(.int .i64 0), (.int .i64 0)], none⟩])
  (.join (.seq (.reg [
     ⟨(some 8), .mv (.k (.int .i64 0)), none⟩])
   (.block 0 (.loop (.join (.seq (.reg [
        ⟨(some 18), .mv (.t 8), none⟩,
        ⟨(some 19), .bin .add (.t 18) (.k (.int .i64 3)), none⟩,
        ⟨(some 20), .mv (.t 1), none⟩,
        ⟨(some 21), .lenS (.t 20), none⟩,
        ⟨(some 22), .bin .lss (.t 19) (.t 21), none⟩,
        ⟨(some 23), .mv (.t 22), none⟩,
        ⟨(some 24), .mv (.t 8), (some (23, true))⟩,
        ⟨(some 25), .bin .lss (.t 24) (.k (.int .i64 240)), (some (23, true))⟩,
        ⟨(some 26), .pick (.t 23) (.t 25) (.k (.bool false)), none⟩])
      (.cond (.t 26) (.skip)
       (.exit 0)))
     (.join (.block 1 (.seq (.reg [
         ⟨(some 29), .mv (.t 1), none⟩,
         ⟨(some 30), .mv (.t 8), none⟩,
         ⟨(some 31), .iaS (.t 29) (.t 30) 1, none⟩,
         ⟨(some 32), .ld (.t 31) none, none⟩,
         ⟨(some 33), .mv (.t 1), none⟩,
         ⟨(some 34), .mv (.t 8), none⟩,
         ⟨(some 35), .bin .add (.t 34) (.k (.int .i64 1)), none⟩,
         ⟨(some 36), .iaS (.t 33) (.t 35) 1, none⟩,
         ⟨(some 37), .ld (.t 36) none, none⟩,
         ⟨(some 38), .mv (.t 1), none⟩,
         ⟨(some 39), .mv (.t 8), none⟩,
         ⟨(some 40), .bin .add (.t 39) (.k (.int .i64 2)), none⟩,
         ⟨(some 41), .iaS (.t 38) (.t 40) 1, none⟩,
         ⟨(some 42), .ld (.t 41) none, none⟩,
         ⟨(some 43), .mv (.t 1), none⟩,
         ⟨(some 44), .mv (.t 8), none⟩,
         ⟨(some 45), .bin .add (.t 44) (.k (.int .i64 3)), none⟩,
         ⟨(some 46), .iaS (.t 43) (.t 45) 1, none⟩,
         ⟨(some 47), .ld (.t 46) none, none⟩,
         ⟨(some 9), .mv (.t 32), none⟩,
         ⟨(some 10), .mv (.t 37), none⟩,
         ⟨(some 11), .mv (.t 42), none⟩,
         ⟨(some 12), .mv (.t 47), none⟩])
       (.seq (.reg [
         ⟨(some 48), .ld (.t 5) (some 131), none⟩,
         ⟨(some 49), .ld (.t 7) (some 2), none⟩,
         ⟨(some 50), .mv (.t 9), none⟩,
         ⟨(some 51), .mv (.t 10), none⟩,
         ⟨(some 52), .mv (.t 11), none⟩,
         ⟨(some 53), .mv (.t 12), none⟩,
         ⟨(some 54), .call f_calls_Step [(.t 48), (.t 49), (.t 50), (.t 51), (.t 52), (.t 53)], none⟩,
         ⟨(some 13), .alloc [(.int .i64 0), (.int .i64 0)], none⟩,
         ⟨none, .st (.t 13) (.t 54) 2, none⟩])
       (.join (.seq (.reg [
          ⟨(some 55), .fa (.t 7) 0, none⟩,
          ⟨(some 56), .ld (.t 55) none, none⟩,
          ⟨(some 57), .mv (.t 11), none⟩,
          ⟨(some 58), .bin .andNot (.t 56) (.t 57), none⟩,
          ⟨(some 59), .fa (.t 13) 0, none⟩,
          ⟨(some 60), .ld (.t 59) none, none⟩,
          ⟨(some 61), .bin .andNot (.t 58) (.t 60), none⟩,
          ⟨(some 62), .bin .and (.t 61) (.k (.int .i64 255)), none⟩,
          ⟨(some 63), .bin .neq (.t 62) (.k (.int .i64 0)), none⟩,
          ⟨(some 64), .mv (.t 63), none⟩,
          ⟨(some 65), .fa (.t 7) 1, (some (64, false))⟩,
          ⟨(some 66), .ld (.t 65) none, (some (64, false))⟩,
          ⟨(some 67), .mv (.t 12), (some (64, false))⟩,
          ⟨(some 68), .bin .andNot (.t 66) (.t 67), (some (64, false))⟩,
          ⟨(some 69), .fa (.t 13) 1, (some (64, false))⟩,
          ⟨(some 70), .ld (.t 69) none, (some (64, false))⟩,
          ⟨(some 71), .bin .andNot (.t 68) (.t 70), (some (64, false))⟩,
          ⟨(some 72), .bin .and (.t 71) (.k (.int .i64 255)), (some (64, false))⟩,
          ⟨(some 73), .bin .neq (.t 72) (.k (.int .i64 0)), (some (64, false))⟩,
          ⟨(some 74), .pick (.t 64) (.k (.bool true)) (.t 73), none⟩,
          ⟨(some 75), .mv (.t 74), none⟩,
          ⟨(some 76), .fa (.t 13) 0, (some (75, false))⟩,
          ⟨(some 77), .ld (.t 76) none, (some (75, false))⟩,
          ⟨(some 78), .mv (.t 11), (some (75, false))⟩,
          ⟨(some 79), .bin .and (.t 77) (.t 78), (some (75, false))⟩,
          ⟨(some 80), .bin .neq (.t 79) (.k (.int .i64 0)), (some (75, false))⟩,
          ⟨(some 81), .pick (.t 75) (.k (.bool true)) (.t 80), none⟩,
          ⟨(some 82), .mv (.t 81), none⟩,
          ⟨(some 83), .fa (.t 13) 1, (some (82, false))⟩,
          ⟨(some 84), .ld (.t 83) none, (some (82, false))⟩,
          ⟨(some 85), .mv (.t 12), (some (82, false))⟩,
          ⟨(some 86), .bin .and (.t 84) (.t 85), (some (82, false))⟩,
          ⟨(some 87), .bin .neq (.t 86) (.k (.int .i64 0)), (some (82, false))⟩,
          ⟨(some 88), .pick (.t 82) (.k (.bool true)) (.t 87), none⟩])
        (.cond (.t 88) (.seq (.reg [
           ⟨(some 4), .mv (.k (.bool false)), none⟩])
         (.ret))
         (.skip)))
       (.join (.seq (.reg [
          ⟨(some 89), .fa (.t 13) 0, none⟩,
          ⟨(some 90), .ld (.t 89) none, none⟩,
          ⟨(some 91), .fa (.t 13) 1, none⟩,
          ⟨(some 92), .ld (.t 91) none, none⟩,
          ⟨(some 93), .bin .or (.t 90) (.t 92), none⟩,
          ⟨(some 94), .mv (.t 6), none⟩,
          ⟨(some 95), .bin .andNot (.t 93) (.t 94), none⟩,
          ⟨(some 96), .bin .neq (.t 95) (.k (.int .i64 0)), none⟩,
          ⟨(some 97), .mv (.t 96), none⟩,
          ⟨(some 98), .ld (.t 5) (some 131), (some (97, false))⟩,
          ⟨(some 99), .ld (.t 13) (some 2), (some (97, false))⟩,
          ⟨(some 100), .mv (.t 9), (some (97, false))⟩,
          ⟨(some 101), .call f_calls_Want [(.t 98), (.t 99), (.t 100)], (some (97, false))⟩,
          ⟨(some 102), .mv (.t 6), (some (97, false))⟩,
          ⟨(some 103), .bin .andNot (.t 101) (.t 102), (some (97, false))⟩,
          ⟨(some 104), .bin .neq (.t 103) (.k (.int .i64 0)), (some (97, false))⟩,
          ⟨(some 105), .pick (.t 97) (.k (.bool true)) (.t 104), none⟩,
          ⟨(some 106), .mv (.t 105), none⟩,
          ⟨(some 107), .fa (.t 13) 0, (some (106, false))⟩,
          ⟨(some 108), .ld (.t 107) none, (some (106, false))⟩,
          ⟨(some 109), .fa (.t 13) 1, (some (106, false))⟩,
          ⟨(some 110), .ld (.t 109) none, (some (106, false))⟩,
          ⟨(some 111), .bin .or (.t 108) (.t 110), (some (106, false))⟩,
          ⟨(some 112), .ld (.t 5) (some 131), (some (106, false))⟩,
          ⟨(some 113), .ld (.t 13) (some 2), (some (106, false))⟩,
          ⟨(some 114), .mv (.t 9), (some (106, false))⟩,
          ⟨(some 115), .call f_calls_Want [(.t 112), (.t 113), (.t 114)], (some (106, false))⟩,
          ⟨(some 116), .bin .andNot (.t 111) (.t 115), (some (106, false))⟩,
          ⟨(some 117), .bin .neq (.t 116) (.k (.int .i64 0)), (some (106, false))⟩,
          ⟨(some 118), .pick (.t 106) (.k (.bool true)) (.t 117), none⟩])
        (.cond (.t 118) (.seq (.reg [
           ⟨(some 4), .mv (.k (.bool false)), none⟩])
         (.ret))
         (.skip)))
       (.reg [
         ⟨(some 119), .ld (.t 13) (some 2), none⟩,
         ⟨none, .st (.t 7) (.t 119) 2, none⟩]))))))
     (.reg [
       ⟨(some 27), .mv (.t 8), none⟩,
       ⟨(some 28), .bin .add (.t 27) (.k (.int .i64 4)), none⟩,
       ⟨(some 8), .mv (.t 28), none⟩]))))))
  (.seq (.reg [
    ⟨(some 120), .call f_law15_awake [], none⟩,
    ⟨(some 4), .mv (.t 120), none⟩])
  (.ret))))))⟩

/-- crossbuck/crossbucklaw15.CallsRecall -/
def cc_law15_CallsRecall (f_law00_Table f_law00_Place e_int f_ref01_Of f_calls_Step f_ref01_Has f_calls_Held f_calls_Want f_law15_awake : Nat) : CFn := ⟨113, [.tmp 8],
  .seq (.reg [
    ⟨(some 8), .mv (.k (.bool false)), none⟩])
  (.seq (.reg [
    ⟨(some 19), .mv (.t 0), none⟩,
    ⟨(some 20), .call f_law00_Table [(.t 19)], none⟩,
    ⟨(some 9), .alloc z131_45020, none⟩,
    ⟨none, .st (.t 9) (.t 20) 131, none⟩])
  (.seq (.reg [
    ⟨(some 21), .mv (.t 1), none⟩,
    ⟨(some 22), .call f_law00_Place [(.t 21), (.k (.int .i64 8))], none⟩,
    ⟨(some 10), .mv (.t 22), none⟩])
  (.seq (.reg [
    ⟨(some 23), .mv (.t 10), none⟩,
    ⟨(some 24), .bsl e_int 1 [(.t 23)], none⟩,
    ⟨(some 25), .call f_ref01_Of [(.t 24)], none⟩,
    ⟨(some 11), .mv (.t 25), none⟩])
  (.seq (.reg [
    ⟨(some 26), .mv (.t 10), none⟩,
    ⟨(some 27), .fa (.t 9) 0, none⟩,
    ⟨(some 28), .iaA (.t 27) (.t 26) 8 13, none⟩,
    ⟨(some 29), .ld (.t 28) (some 13), none⟩,
    ⟨(some 12), .alloc z13_14216, none⟩,
    ⟨none, .st (.t 12) (.t 29) 13, none⟩])
  (.seq (.reg [
    ⟨(some 13), .mv (.k (.int .i64 0)), none⟩,
    ⟨(some 14), .mv (.k (.int .i64 0)), none⟩])
  (.join (.seq (.reg [
     ⟨(some 30), .mv (.t 2), none⟩])
   (.cond (.t 30) (.reg [
      ⟨(some 31), .mv (.t 11), none⟩,
      ⟨(some 13), .mv (.t 31), none⟩])
    (.skip)))
  (.join (.seq (.reg [
     ⟨(some 32), .mv (.t 3), none⟩])
   (.cond (.t 32) (.reg [
      ⟨(some 33), .mv (.t 11), none⟩,
      ⟨(some 14), .mv (.t 33), none⟩])
    (.skip)))
  (.seq (.reg [
    ⟨(some 34), .ld (.t 9) (some 131), none⟩,
    ⟨(some 35), .build [(.int .i64 0), (.int .i64 0)] [], none⟩,
    ⟨(some 36), .mv (.t 13), none⟩,
    ⟨(some 37), .mv (.t 14), none⟩,
    ⟨(some 38), .call f_calls_Step [(.t 34), (.t 35), (.k (.int .i64 0)), (.k (.int .i64 0)), (.t 36), (.t 37)], none⟩,
    ⟨(some 15), .alloc [(.int .i64 0), (.int .i64 0)], none⟩,
    ⟨none, .st (.t 15) (.t 38) 2, none⟩])
  (.seq (.reg [
    ⟨(some 39), .fa (.t 12) 0, none⟩,
    ⟨(some 40), .ld (.t 39) none, none⟩,
    ⟨(some 41), .mv (.t 40), none⟩,
    ⟨(some 42), .mv (.t 2), (some (41, true))⟩,
    ⟨(some 43), .un .not (.t 42), (some (41, true))⟩,
    ⟨(some 44), .pick (.t 41) (.t 43) (.k (.bool false)), none⟩,
    ⟨(some 45), .mv (.t 44), none⟩,
    ⟨(some 46), .fa (.t 12) 10, (some (45, true))⟩,
    ⟨(some 47), .ld (.t 46) none, (some (45, true))⟩,
    ⟨(some 48), .bin .eql (.t 47) (.k (.int .i64 1)), (some (45, true))⟩,
    ⟨(some 49), .mv (.t 48), (some (45, true))⟩,
    ⟨(some 50), .fa (.t 12) 10, (some (49, false))⟩,
    ⟨(some 51), .ld (.t 50) none, (some (49, false))⟩,
    ⟨(some 52), .bin .eql (.t 51) (.k (.int .i64 2)), (some (49, false))⟩,
    ⟨(some 53), .pick (.t 49) (.k (.bool true)) (.t 52), (some (45, true))⟩,
    ⟨(some 54), .pick (.t 45) (.t 53) (.k (.bool false)), none⟩,
    ⟨(some 16), .mv (.t 54), none⟩])
  (.seq (.reg [
    ⟨(some 55), .fa (.t 12) 0, none⟩,
    ⟨(some 56), .ld (.t 55) none, none⟩,
    ⟨(some 57), .mv (.t 56), none⟩,
    ⟨(some 58), .mv (.t 3), (some (57, true))⟩,
    ⟨(some 59), .un .not (.t 58), (some (57, true))⟩,
    ⟨(some 60), .pick (.t 57) (.t 59) (.k (.bool false)), none⟩,
    ⟨(some 61), .mv (.t 60), none⟩,
    ⟨(some 62), .fa (.t 12) 10, (some (61, true))⟩,
    ⟨(some 63), .ld (.t 62) none, (some (61, true))⟩,
    ⟨(some 64), .bin .eql (.t 63) (.k (.int .i64 3)), (some (61, true))⟩,
    ⟨(some 65), .pick (.t 61) (.t 64) (.k (.bool false)), none⟩,
    ⟨(some 17), .mv (.t 65), none⟩])
  (.seq (.reg [
    ⟨(some 66), .fa (.t 12) 0, none⟩,
    ⟨(some 67), .ld (.t 66) none, none⟩,
    ⟨(some 68), .mv (.t 67), none⟩,
    ⟨(some 69), .fa (.t 12) 10, (some (68, true))⟩,
    ⟨(some 70), .ld (.t 69) none, (some (68, true))⟩,
    ⟨(some 71), .bin .eql (.t 70) (.k (.int .i64 2)), (some (68, true))⟩,
    ⟨(some 72), .pick (.t 68) (.t 71) (.k (.bool false)), none⟩,
    ⟨(some 18), .mv (.t 72), none⟩])
  (.seq (.reg [
    ⟨(some 73), .fa (.t 15) 0, none⟩,
    ⟨(some 74), .ld (.t 73) none, none⟩,
    ⟨(some 75), .mv (.t 10), none⟩,
    ⟨(some 76), .call f_ref01_Has [(.t 74), (.t 75)], none⟩,
    ⟨(some 77), .mv (.t 16), none⟩,
    ⟨(some 78), .bb false (.t 76) (.t 77), none⟩,
    ⟨(some 79), .mv (.t 78), none⟩,
    ⟨(some 80), .fa (.t 15) 1, (some (79, true))⟩,
    ⟨(some 81), .ld (.t 80) none, (some (79, true))⟩,
    ⟨(some 82), .mv (.t 10), (some (79, true))⟩,
    ⟨(some 83), .call f_ref01_Has [(.t 81), (.t 82)], (some (79, true))⟩,
    ⟨(some 84), .mv (.t 17), (some (79, true))⟩,
    ⟨(some 85), .bb false (.t 83) (.t 84), (some (79, true))⟩,
    ⟨(some 86), .pick (.t 79) (.t 85) (.k (.bool false)), none⟩,
    ⟨(some 87), .mv (.t 86), none⟩,
    ⟨(some 88), .ld (.t 9) (some 131), (some (87, true))⟩,
    ⟨(some 89), .call f_calls_Held [(.t 88), (.k (.int .i64 0))], (some (87, true))⟩,
    ⟨(some 90), .mv (.t 10), (some (87, true))⟩,
    ⟨(some 91), .call f_ref01_Has [(.t 89), (.t 90)], (some (87, true))⟩,
    ⟨(some 92), .mv (.t 18), (some (87, true))⟩,
    ⟨(some 93), .bb false (.t 91) (.t 92), (some (87, true))⟩,
    ⟨(some 94), .pick (.t 87) (.t 93) (.k (.bool false)), none⟩,
    ⟨(some 95), .mv (.t 94), none⟩,
    ⟨(some 96), .ld (.t 9) (some 131), (some (95, true))⟩,
    ⟨(some 97), .ld (.t 15) (some 2), (some (95, true))⟩,
    ⟨(some 98), .call f_calls_Want [(.t 96), (.t 97), (.k (.int .i64 0))], (some (95, true))⟩,
    ⟨(some 99), .mv (.t 10), (some (95, true))⟩,
    ⟨(some 100), .call f_ref01_Has [(.t 98), (.t 99)], (some (95, true))⟩,
    ⟨(some 101), .mv (.t 16), (some (95, true))⟩,
    ⟨(some 102), .mv (.t 101), (some (95, true))⟩,
    ⟨(some 103), .mv (.t 17), (some (102, false))⟩,
    ⟨(some 104), .pick (.t 102) (.k (.bool true)) (.t 103), (some (95, true))⟩,
    ⟨(some 105), .mv (.t 104), (some (95, true))⟩,
    ⟨(some 106), .mv (.t 18), (some (105, false))⟩,
    ⟨(some 107), .pick (.t 105) (.k (.bool true)) (.t 106), (some (95, true))⟩,
    ⟨(some 108), .bb false (.t 100) (.t 107), (some (95, true))⟩,
    ⟨(some 109), .pick (.t 95) (.t 108) (.k (.bool false)), none⟩,
    ⟨(some 110), .mv (.t 109), none⟩,
    ⟨(some 111), .call f_law15_awake [], (some (110, true))⟩,
    ⟨(some 112), .pick (.t 110) (.t 111) (.k (.bool false)), none⟩,
    ⟨(some 8), .mv (.t 112), none⟩])
  (.ret)))))))))))))⟩

/-- crossbuck/crossbucklaw15.CallsMore -/
def cc_law15_CallsMore (f_law00_Table f_calls_Step f_calls_Want f_law15_awake : Nat) : CFn := ⟨81, [.tmp 14],
  .seq (.reg [
    ⟨(some 8), .box (.t 1), none⟩,
    ⟨(some 14), .mv (.k (.bool false)), none⟩])
  (.seq (.reg [
    ⟨(some 18), .mv (.t 0), none⟩,
    ⟨(some 19), .call f_law00_Table [(.t 18)], none⟩,
    ⟨(some 15), .alloc z131_45020, none⟩,
    ⟨none, .st (.t 15) (.t 19) 131, none⟩])
  (.seq (.reg [
    ⟨(some 20), .ld (.t 15) (some 131), none⟩,
    ⟨(some 21), .ld (.t 8) (some 2), none⟩,
    ⟨(some 22), .mv (.t 2), none⟩,
    ⟨(some 23), .mv (.t 3), none⟩,
    ⟨(some 24), .mv (.t 5), none⟩,
    ⟨(some 25), .mv (.t 6), none⟩,
    ⟨(some 26), .call f_calls_Step [(.t 20), (.t 21), (.t 22), (.t 23), (.t 24), (.t 25)], none⟩,
    ⟨(some 16), .alloc [(.int .i64 0), (.int .i64 0)], none⟩,
    ⟨none, .st (.t 16) (.t 26) 2, none⟩])
  (.seq (.reg [
    ⟨(some 27), .ld (.t 15) (some 131), none⟩,
    ⟨(some 28), .fa (.t 8) 0, none⟩,
    ⟨(some 29), .ld (.t 28) none, none⟩,
    ⟨(some 30), .mv (.t 4), none⟩,
    ⟨(some 31), .bin .or (.t 29) (.t 30), none⟩,
    ⟨(some 32), .fa (.t 8) 1, none⟩,
    ⟨(some 33), .ld (.t 32) none, none⟩,
    ⟨(some 34), .mv (.t 4), none⟩,
    ⟨(some 35), .bin .shr (.t 34) (.k (.int .u64 8)), none⟩,
    ⟨(some 36), .bin .or (.t 33) (.t 35), none⟩,
    ⟨(some 37), .build [(.int .i64 0), (.int .i64 0)] [(0, 1, (.t 31)), (1, 1, (.t 36))], none⟩,
    ⟨(some 38), .mv (.t 2), none⟩,
    ⟨(some 39), .mv (.t 4), none⟩,
    ⟨(some 40), .bin .shr (.t 39) (.k (.int .u64 16)), none⟩,
    ⟨(some 41), .bin .or (.t 38) (.t 40), none⟩,
    ⟨(some 42), .mv (.t 3), none⟩,
    ⟨(some 43), .mv (.t 4), none⟩,
    ⟨(some 44), .bin .shr (.t 43) (.k (.int .u64 24)), none⟩,
    ⟨(some 45), .bin .or (.t 42) (.t 44), none⟩,
    ⟨(some 46), .mv (.t 5), none⟩,
    ⟨(some 47), .mv (.t 6), none⟩,
    ⟨(some 48), .call f_calls_Step [(.t 27), (.t 37), (.t 41), (.t 45), (.t 46), (.t 47)], none⟩,
    ⟨(some 17), .alloc [(.int .i64 0), (.int .i64 0)], none⟩,
    ⟨none, .st (.t 17) (.t 48) 2, none⟩])
  (.seq (.reg [
    ⟨(some 49), .fa (.t 16) 0, none⟩,
    ⟨(some 50), .ld (.t 49) none, none⟩,
    ⟨(some 51), .fa (.t 17) 0, none⟩,
    ⟨(some 52), .ld (.t 51) none, none⟩,
    ⟨(some 53), .bin .andNot (.t 50) (.t 52), none⟩,
    ⟨(some 54), .bin .eql (.t 53) (.k (.int .i64 0)), none⟩,
    ⟨(some 55), .mv (.t 54), none⟩,
    ⟨(some 56), .fa (.t 16) 1, (some (55, true))⟩,
    ⟨(some 57), .ld (.t 56) none, (some (55, true))⟩,
    ⟨(some 58), .fa (.t 17) 1, (some (55, true))⟩,
    ⟨(some 59), .ld (.t 58) none, (some (55, true))⟩,
    ⟨(some 60), .bin .andNot (.t 57) (.t 59), (some (55, true))⟩,
    ⟨(some 61), .bin .eql (.t 60) (.k (.int .i64 0)), (some (55, true))⟩,
    ⟨(some 62), .pick (.t 55) (.t 61) (.k (.bool false)), none⟩,
    ⟨(some 63), .mv (.t 62), none⟩,
    ⟨(some 64), .ld (.t 15) (some 131), (some (63, true))⟩,
    ⟨(some 65), .ld (.t 16) (some 2), (some (63, true))⟩,
    ⟨(some 66), .mv (.t 2), (some (63, true))⟩,
    ⟨(some 67), .call f_calls_Want [(.t 64), (.t 65), (.t 66)], (some (63, true))⟩,
    ⟨(some 68), .ld (.t 15) (some 131), (some (63, true))⟩,
    ⟨(some 69), .ld (.t 17) (some 2), (some (63, true))⟩,
    ⟨(some 70), .mv (.t 2), (some (63, true))⟩,
    ⟨(some 71), .mv (.t 4), (some (63, true))⟩,
    ⟨(some 72), .bin .shr (.t 71) (.k (.int .u64 16)), (some (63, true))⟩,
    ⟨(some 73), .bin .or (.t 70) (.t 72), (some (63, true))⟩,
    ⟨(some 74), .call f_calls_Want [(.t 68), (.t 69), (.t 73)], (some (63, true))⟩,
    ⟨(some 75), .bin .andNot (.t 67) (.t 74), (some (63, true))⟩,
    ⟨(some 76), .bin .eql (.t 75) (.k (.int .i64 0)), (some (63, true))⟩,
    ⟨(some 77), .pick (.t 63) (.t 76) (.k (.bool false)), none⟩,
    ⟨(some 78), .mv (.t 77), none⟩,
    ⟨(some 79), .call f_law15_awake [], (some (78, true))⟩,
    ⟨(some 80), .pick (.t 78) (.t 79) (.k (.bool false)), none⟩,
    ⟨(some 14), .mv (.t 80), none⟩])
  (.ret)))))⟩

/-- crossbuck/crossbucklaw00.Table -/
def cc_law00_Table (f_law00_rows f_law00_phase f_ref08_Beside f_law00_from f_ref01_With f_law00_detector e_api_Detector f_law00_rail e_api_Rail e_api_Bus f_ref08_Wait : Nat) : CFn := ⟨186, [.cell 2 (some 131)],
  .seq (.reg [
    ⟨(some 2), .alloc z131_45020, none⟩])
  (.seq (.reg [
    ⟨(some 3), .alloc z131_45020, none⟩])
  (.seq (.reg [
    ⟨(some 13), .mv (.t 0), none⟩,
    ⟨(some 14), .callp f_law00_rows [(.t 3), (.t 13)], none⟩,
    ⟨(some 4), .mv (.t 14), none⟩])
  (.join (.seq (.reg [
     ⟨(some 5), .mv (.k (.int .i64 0)), none⟩])
   (.block 0 (.loop (.join (.seq (.reg [
        ⟨(some 15), .mv (.t 5), none⟩,
        ⟨(some 16), .mv (.t 4), none⟩,
        ⟨(some 17), .bin .lss (.t 15) (.t 16), none⟩])
      (.cond (.t 17) (.skip)
       (.exit 0)))
     (.join (.block 1 (.seq (.reg [
         ⟨(some 20), .mv (.t 5), none⟩,
         ⟨(some 21), .mv (.t 0), none⟩,
         ⟨(some 22), .mv (.t 5), none⟩,
         ⟨(some 23), .bin .mul (.k (.int .i64 12)) (.t 22), none⟩,
         ⟨(some 24), .bin .add (.k (.int .i64 10)) (.t 23), none⟩,
         ⟨(some 25), .call f_law00_phase [(.t 21), (.t 24)], none⟩,
         ⟨(some 26), .fa (.t 3) 0, none⟩,
         ⟨(some 27), .iaA (.t 26) (.t 20) 8 13, none⟩,
         ⟨none, .st (.t 27) (.t 25) 13, none⟩])
       (.reg [
         ⟨(some 28), .mv (.t 5), none⟩,
         ⟨(some 29), .fa (.t 3) 121, none⟩,
         ⟨(some 30), .iaA (.t 29) (.t 28) 8 1, none⟩,
         ⟨none, .st (.t 30) (.k (.int .i64 1)) 1, none⟩])))
     (.reg [
       ⟨(some 18), .mv (.t 5), none⟩,
       ⟨(some 19), .bin .add (.t 18) (.k (.int .i64 1)), none⟩,
       ⟨(some 5), .mv (.t 19), none⟩]))))))
  (.join (.seq (.reg [
     ⟨(some 6), .mv (.k (.int .i64 0)), none⟩])
   (.block 2 (.loop (.join (.seq (.reg [
        ⟨(some 31), .mv (.t 6), none⟩,
        ⟨(some 32), .mv (.t 4), none⟩,
        ⟨(some 33), .bin .lss (.t 31) (.t 32), none⟩])
      (.cond (.t 33) (.skip)
       (.exit 2)))
     (.join (.block 3 (.seq (.reg [
         ⟨(some 7), .mv (.k (.int .i64 0)), none⟩])
       (.block 4 (.loop (.join (.seq (.reg [
            ⟨(some 36), .mv (.t 7), none⟩,
            ⟨(some 37), .mv (.t 6), none⟩,
            ⟨(some 38), .bin .lss (.t 36) (.t 37), none⟩])
          (.cond (.t 38) (.skip)
           (.exit 4)))
         (.join (.block 5 (.seq (.reg [
             ⟨(some 41), .ld (.t 3) (some 131), none⟩,
             ⟨(some 42), .mv (.t 6), none⟩,
             ⟨(some 43), .mv (.t 7), none⟩,
             ⟨(some 44), .call f_ref08_Beside [(.t 41), (.t 42), (.t 43)], none⟩,
             ⟨(some 45), .un .not (.t 44), none⟩,
             ⟨(some 46), .mv (.t 45), none⟩,
             ⟨(some 47), .mv (.t 0), (some (46, true))⟩,
             ⟨(some 48), .mv (.t 6), (some (46, true))⟩,
             ⟨(some 49), .bin .mul (.k (.int .i64 8)) (.t 48), (some (46, true))⟩,
             ⟨(some 50), .bin .add (.k (.int .i64 110)) (.t 49), (some (46, true))⟩,
             ⟨(some 51), .mv (.t 7), (some (46, true))⟩,
             ⟨(some 52), .bin .add (.t 50) (.t 51), (some (46, true))⟩,
             ⟨(some 53), .call f_law00_from [(.t 47), (.t 52), (.k (.int .i64 9))], (some (46, true))⟩,
             ⟨(some 54), .bin .neq (.t 53) (.k (.int .i64 1)), (some (46, true))⟩,
             ⟨(some 55), .pick (.t 46) (.t 54) (.k (.bool false)), none⟩])
           (.cond (.t 55) (.seq (.reg [
              ⟨(some 56), .mv (.t 6), none⟩,
              ⟨(some 57), .mv (.t 6), none⟩,
              ⟨(some 58), .fa (.t 3) 105, none⟩,
              ⟨(some 59), .iaA (.t 58) (.t 57) 8 1, none⟩,
              ⟨(some 60), .ld (.t 59) none, none⟩,
              ⟨(some 61), .mv (.t 7), none⟩,
              ⟨(some 62), .call f_ref01_With [(.t 60), (.t 61)], none⟩,
              ⟨(some 63), .fa (.t 3) 105, none⟩,
              ⟨(some 64), .iaA (.t 63) (.t 56) 8 1, none⟩,
              ⟨none, .st (.t 64) (.t 62) 1, none⟩])
            (.reg [
              ⟨(some 65), .mv (.t 7), none⟩,
              ⟨(some 66), .mv (.t 7), none⟩,
              ⟨(some 67), .fa (.t 3) 105, none⟩,
              ⟨(some 68), .iaA (.t 67) (.t 66) 8 1, none⟩,
              ⟨(some 69), .ld (.t 68) none, none⟩,
              ⟨(some 70), .mv (.t 6), none⟩,
              ⟨(some 71), .call f_ref01_With [(.t 69), (.t 70)], none⟩,
              ⟨(some 72), .fa (.t 3) 105, none⟩,
              ⟨(some 73), .iaA (.t 72) (.t 65) 8 1, none⟩,
              ⟨none, .st (.t 73) (.t 71) 1, none⟩]))
            (.skip))))
         (.reg [
           ⟨(some 39), .mv (.t 7), none⟩,
           ⟨(some 40), .bin .add (.t 39) (.k (.int .i64 1)), none⟩,
           ⟨(some 7), .mv (.t 40), none⟩])))))))
     (.reg [
       ⟨(some 34), .mv (.t 6), none⟩,
       ⟨(some 35), .bin .add (.t 34) (.k (.int .i64 1)), none⟩,
       ⟨(some 6), .mv (.t 35), none⟩]))))))
  (.join (.seq (.reg [
     ⟨(some 74), .mv (.t 0), none⟩,
     ⟨(some 75), .mv (.t 4), none⟩,
     ⟨(some 76), .bin .add (.t 75) (.k (.int .i64 1)), none⟩,
     ⟨(some 77), .call f_law00_from [(.t 74), (.k (.int .i64 174)), (.t 76)], none⟩,
     ⟨(some 8), .mv (.t 77), none⟩])
   (.seq (.reg [
     ⟨(some 78), .mv (.t 8), none⟩,
     ⟨(some 79), .mv (.t 4), none⟩,
     ⟨(some 80), .bin .lss (.t 78) (.t 79), none⟩])
   (.cond (.t 80) (.reg [
      ⟨(some 81), .mv (.t 8), none⟩,
      ⟨(some 82), .fa (.t 3) 121, none⟩,
      ⟨(some 83), .iaA (.t 82) (.t 81) 8 1, none⟩,
      ⟨none, .st (.t 83) (.k (.int .i64 2)) 1, none⟩])
    (.skip))))
  (.join (.seq (.reg [
     ⟨(some 84), .mv (.t 0), none⟩,
     ⟨(some 85), .call f_law00_from [(.t 84), (.k (.int .i64 175)), (.k (.int .i64 9))], none⟩,
     ⟨(some 9), .mv (.t 85), none⟩])
   (.block 6 (.loop (.join (.seq (.reg [
        ⟨(some 86), .mv (.t 9), none⟩,
        ⟨(some 87), .bin .gtr (.t 86) (.k (.int .i64 0)), none⟩])
      (.cond (.t 87) (.skip)
       (.exit 6)))
     (.join (.block 7 (.reg [
         ⟨(some 90), .fa (.t 3) 113, none⟩,
         ⟨(some 91), .ld (.t 90) none, none⟩,
         ⟨(some 92), .mv (.t 0), none⟩,
         ⟨(some 93), .mv (.t 9), none⟩,
         ⟨(some 94), .bin .mul (.k (.int .i64 8)) (.t 93), none⟩,
         ⟨(some 95), .bin .add (.k (.int .i64 180)) (.t 94), none⟩,
         ⟨(some 96), .mv (.t 4), none⟩,
         ⟨(some 97), .call f_law00_detector [(.t 92), (.t 95), (.t 96)], none⟩,
         ⟨(some 98), .bsl e_api_Detector 7 [(.t 97)], none⟩,
         ⟨(some 99), .app e_api_Detector 7 56 (.t 91) (.t 98), none⟩,
         ⟨(some 100), .fa (.t 3) 113, none⟩,
         ⟨none, .st (.t 100) (.t 99) 1, none⟩]))
     (.reg [
       ⟨(some 88), .mv (.t 9), none⟩,
       ⟨(some 89), .bin .sub (.t 88) (.k (.int .i64 1)), none⟩,
       ⟨(some 9), .mv (.t 89), none⟩]))))))
  (.join (.seq (.reg [
     ⟨(some 101), .mv (.t 0), none⟩,
     ⟨(some 102), .call f_law00_from [(.t 101), (.k (.int .i64 176)), (.k (.int .i64 4))], none⟩,
     ⟨(some 103), .bin .rem (.t 102) (.k (.int .i64 3)), none⟩,
     ⟨(some 10), .mv (.t 103), none⟩])
   (.block 8 (.loop (.join (.seq (.reg [
        ⟨(some 104), .mv (.t 10), none⟩,
        ⟨(some 105), .bin .gtr (.t 104) (.k (.int .i64 0)), none⟩])
      (.cond (.t 105) (.skip)
       (.exit 8)))
     (.join (.block 9 (.reg [
         ⟨(some 108), .fa (.t 3) 114, none⟩,
         ⟨(some 109), .ld (.t 108) none, none⟩,
         ⟨(some 110), .ld (.t 3) (some 131), none⟩,
         ⟨(some 111), .mv (.t 0), none⟩,
         ⟨(some 112), .mv (.t 10), none⟩,
         ⟨(some 113), .bin .mul (.k (.int .i64 16)) (.t 112), none⟩,
         ⟨(some 114), .bin .add (.k (.int .i64 260)) (.t 113), none⟩,
         ⟨(some 115), .mv (.t 4), none⟩,
         ⟨(some 116), .call f_law00_rail [(.t 110), (.t 111), (.t 114), (.t 115)], none⟩,
         ⟨(some 117), .bsl e_api_Rail 11 [(.t 116)], none⟩,
         ⟨(some 118), .app e_api_Rail 11 88 (.t 109) (.t 117), none⟩,
         ⟨(some 119), .fa (.t 3) 114, none⟩,
         ⟨none, .st (.t 119) (.t 118) 1, none⟩]))
     (.reg [
       ⟨(some 106), .mv (.t 10), none⟩,
       ⟨(some 107), .bin .sub (.t 106) (.k (.int .i64 1)), none⟩,
       ⟨(some 10), .mv (.t 107), none⟩]))))))
  (.join (.seq (.reg [
     ⟨(some 120), .mv (.t 0), none⟩,
     ⟨(some 121), .call f_law00_from [(.t 120), (.k (.int .i64 177)), (.k (.int .i64 3))], none⟩,
     ⟨(some 11), .mv (.t 121), none⟩])
   (.block 10 (.loop (.join (.seq (.reg [
        ⟨(some 122), .mv (.t 11), none⟩,
        ⟨(some 123), .bin .gtr (.t 122) (.k (.int .i64 0)), none⟩])
      (.cond (.t 123) (.skip)
       (.exit 10)))
     (.join (.block 11 (.reg [
         ⟨(some 126), .fa (.t 3) 115, none⟩,
         ⟨(some 127), .ld (.t 126) none, none⟩,
         ⟨(some 128), .mv (.t 0), none⟩,
         ⟨(some 129), .mv (.t 11), none⟩,
         ⟨(some 130), .bin .mul (.k (.int .i64 2)) (.t 129), none⟩,
         ⟨(some 131), .bin .add (.k (.int .i64 330)) (.t 130), none⟩,
         ⟨(some 132), .call f_law00_from [(.t 128), (.t 131), (.k (.int .i64 256))], none⟩,
         ⟨(some 133), .mv (.t 4), none⟩,
         ⟨(some 134), .cvII .u64 (.t 133), none⟩,
         ⟨(some 135), .bin .shl (.k (.int .i64 1)) (.t 134), none⟩,
         ⟨(some 136), .bin .sub (.t 135) (.k (.int .i64 1)), none⟩,
         ⟨(some 137), .bin .and (.t 132) (.t 136), none⟩,
         ⟨(some 138), .mm true [(.k (.int .i64 1)), (.t 137)], none⟩,
         ⟨(some 139), .mv (.t 0), none⟩,
         ⟨(some 140), .mv (.t 11), none⟩,
         ⟨(some 141), .bin .mul (.k (.int .i64 2)) (.t 140), none⟩,
         ⟨(some 142), .bin .add (.k (.int .i64 331)) (.t 141), none⟩,
         ⟨(some 143), .call f_law00_from [(.t 139), (.t 142), (.k (.int .i64 30))], none⟩,
         ⟨(some 144), .bin .add (.k (.int .i64 1)) (.t 143), none⟩,
         ⟨(some 145), .build [(.int .i64 0), (.int .i64 0)] [(0, 1, (.t 138)), (1, 1, (.t 144))], none⟩,
         ⟨(some 146), .bsl e_api_Bus 2 [(.t 145)], none⟩,
         ⟨(some 147), .app e_api_Bus 2 16 (.t 127) (.t 146), none⟩,
         ⟨(some 148), .fa (.t 3) 115, none⟩,
         ⟨none, .st (.t 148) (.t 147) 1, none⟩]))
     (.reg [
       ⟨(some 124), .mv (.t 11), none⟩,
       ⟨(some 125), .bin .sub (.t 124) (.k (.int .i64 1)), none⟩,
       ⟨(some 11), .mv (.t 125), none⟩]))))))
  (.seq (.reg [
    ⟨(some 149), .mv (.t 0), none⟩,
    ⟨(some 150), .call f_law00_from [(.t 149), (.k (.int .i64 178)), (.k (.int .i64 12))], none⟩,
    ⟨(some 151), .fa (.t 3) 116, none⟩,
    ⟨none, .st (.t 151) (.t 150) 1, none⟩])
  (.seq (.reg [
    ⟨(some 152), .mv (.t 0), none⟩,
    ⟨(some 153), .call f_law00_from [(.t 152), (.k (.int .i64 179)), (.k (.int .i64 40))], none⟩,
    ⟨(some 154), .fa (.t 3) 117, none⟩,
    ⟨none, .st (.t 154) (.t 153) 1, none⟩])
  (.seq (.reg [
    ⟨(some 155), .mv (.t 0), none⟩,
    ⟨(some 156), .call f_law00_from [(.t 155), (.k (.int .i64 180)), (.k (.int .i64 8))], none⟩,
    ⟨(some 157), .fa (.t 3) 118, none⟩,
    ⟨none, .st (.t 157) (.t 156) 1, none⟩])
  (.seq (.reg [
    ⟨(some 158), .mv (.t 0), none⟩,
    ⟨(some 159), .call f_law00_from [(.t 158), (.k (.int .i64 181)), (.k (.int .i64 8))], none⟩,
    ⟨(some 160), .fa (.t 3) 119, none⟩,
    ⟨none, .st (.t 160) (.t 159) 1, none⟩])
  (.seq (.reg [
    ⟨(some 161), .mv (.t 0), none⟩,
    ⟨(some 162), .call f_law00_from [(.t 161), (.k (.int .i64 182)), (.k (.int .i64 12))], none⟩,
    ⟨(some 163), .fa (.t 3) 120, none⟩,
    ⟨none, .st (.t 163) (.t 162) 1, none⟩])
  (.seq (.reg [
    ⟨(some 164), .mv (.t 0), none⟩,
    ⟨(some 165), .call f_law00_from [(.t 164), (.k (.int .i64 183)), (.k (.int .i64 4))], none⟩,
    ⟨(some 166), .fa (.t 3) 130, none⟩,
    ⟨none, .st (.t 166) (.t 165) 1, none⟩])
  (.join (.seq (.reg [
     ⟨(some 12), .mv (.k (.int .i64 0)), none⟩])
   (.block 12 (.loop (.join (.seq (.reg [
        ⟨(some 167), .mv (.t 12), none⟩,
        ⟨(some 168), .mv (.t 4), none⟩,
        ⟨(some 169), .bin .lss (.t 167) (.t 168), none⟩,
        ⟨(some 170), .mv (.t 169), none⟩,
        ⟨(some 171), .fa (.t 3) 114, (some (170, true))⟩,
        ⟨(some 172), .ld (.t 171) none, (some (170, true))⟩,
        ⟨(some 173), .lenS (.t 172), (some (170, true))⟩,
        ⟨(some 174), .bin .gtr (.t 173) (.k (.int .i64 0)), (some (170, true))⟩,
        ⟨(some 175), .pick (.t 170) (.t 174) (.k (.bool false)), none⟩])
      (.cond (.t 175) (.skip)
       (.exit 12)))
     (.join (.block 13 (.reg [
         ⟨(some 178), .fa (.t 3) 129, none⟩,
         ⟨(some 179), .ld (.t 178) none, none⟩,
         ⟨(some 180), .ld (.t 3) (some 131), none⟩,
         ⟨(some 181), .mv (.t 12), none⟩,
         ⟨(some 182), .call f_ref08_Wait [(.t 180), (.t 181)], none⟩,
         ⟨(some 183), .mm true [(.t 179), (.t 182)], none⟩,
         ⟨(some 184), .fa (.t 3) 129, none⟩,
         ⟨none, .st (.t 184) (.t 183) 1, none⟩]))
     (.reg [
       ⟨(some 176), .mv (.t 12), none⟩,
       ⟨(some 177), .bin .add (.t 176) (.k (.int .i64 1)), none⟩,
       ⟨(some 12), .mv (.t 177), none⟩]))))))
  (.seq (.reg [
    ⟨(some 185), .ld (.t 3) (some 131), none⟩,
    ⟨none, .st (.t 2) (.t 185) 131, none⟩])
  (.ret)))))))))))))))))⟩

/-- crossbuck/crossbuckref08.On -/
def cc_ref08_On (e_int f_ref01_Of : Nat) : CFn := ⟨20, [.tmp 2],
  .seq (.reg [
    ⟨(some 1), .box (.t 0), none⟩,
    ⟨(some 2), .mv (.k (.int .i64 0)), none⟩])
  (.seq (.reg [
    ⟨(some 3), .mv (.k .nils), none⟩])
  (.join (.seq (.reg [
     ⟨(some 4), .mv (.k (.int .i64 0)), none⟩])
   (.block 0 (.loop (.join (.seq (.reg [
        ⟨(some 5), .mv (.t 4), none⟩,
        ⟨(some 6), .bin .lss (.t 5) (.k (.int .i64 8)), none⟩])
      (.cond (.t 6) (.skip)
       (.exit 0)))
     (.join (.block 1 (.seq (.reg [
         ⟨(some 9), .mv (.t 4), none⟩,
         ⟨(some 10), .fa (.t 1) 0, none⟩,
         ⟨(some 11), .iaA (.t 10) (.t 9) 8 13, none⟩,
         ⟨(some 12), .fa (.t 11) 0, none⟩,
         ⟨(some 13), .ld (.t 12) none, none⟩])
       (.cond (.t 13) (.reg [
          ⟨(some 14), .mv (.t 3), none⟩,
          ⟨(some 15), .mv (.t 4), none⟩,
          ⟨(some 16), .bsl e_int 1 [(.t 15)], none⟩,
          ⟨(some 17), .app e_int 1 8 (.t 14) (.t 16), none⟩,
          ⟨(some 3), .mv (.t 17), none⟩])
        (.skip))))
     (.reg [
       ⟨(some 7), .mv (.t 4), none⟩,
       ⟨(some 8), .bin .add (.t 7) (.k (.int .i64 1)), none⟩,
       ⟨(some 4), .mv (.t 8), none⟩]))))))
  (.seq (.reg [
    ⟨(some 18), .mv (.t 3), none⟩,
    ⟨(some 19), .call f_ref01_Of [(.t 18)], none⟩,
    ⟨(some 2), .mv (.t 19), none⟩])
  (.ret))))⟩

/-- crossbuck/calls.Step -/
def cc_calls_Step (f_calls_Step_1 f_calls_Step_2 f_calls_those : Nat) : CFn := ⟨24, [.cell 12 (some 2)],
  .seq (.reg [
    ⟨(some 6), .box (.t 0), none⟩,
    ⟨(some 7), .box (.t 1), none⟩,
    ⟨(some 8), .box (.t 2), none⟩,
    ⟨(some 9), .box (.t 3), none⟩,
    ⟨(some 10), .box (.t 4), none⟩,
    ⟨(some 11), .box (.t 5), none⟩,
    ⟨(some 12), .alloc [(.int .i64 0), (.int .i64 0)], none⟩])
  (.seq (.reg [
    ⟨(some 15), .mkf (.func f_calls_Step_1) [] [(.t 10), (.t 7), (.t 8)], none⟩,
    ⟨(some 13), .mv (.t 15), none⟩])
  (.seq (.reg [
    ⟨(some 16), .mkf (.func f_calls_Step_2) [] [(.t 11), (.t 7), (.t 9)], none⟩,
    ⟨(some 14), .mv (.t 16), none⟩])
  (.seq (.reg [
    ⟨(some 17), .ld (.t 6) (some 131), none⟩,
    ⟨(some 18), .mv (.t 13), none⟩,
    ⟨(some 19), .call f_calls_those [(.t 17), (.t 18)], none⟩,
    ⟨(some 20), .ld (.t 6) (some 131), none⟩,
    ⟨(some 21), .mv (.t 14), none⟩,
    ⟨(some 22), .call f_calls_those [(.t 20), (.t 21)], none⟩,
    ⟨(some 23), .build [(.int .i64 0), (.int .i64 0)] [(0, 1, (.t 19)), (1, 1, (.t 22))], none⟩,
    ⟨none, .st (.t 12) (.t 23) 2, none⟩])
  (.ret))))⟩

/-- crossbuck/calls.Want -/
def cc_calls_Want (f_calls_Held f_calls_Want_1 f_calls_those : Nat) : CFn := ⟨14, [.tmp 6],
  .seq (.reg [
    ⟨(some 3), .box (.t 0), none⟩,
    ⟨(some 4), .box (.t 1), none⟩,
    ⟨(some 6), .mv (.k (.int .i64 0)), none⟩])
  (.seq (.reg [
    ⟨(some 8), .ld (.t 3) (some 131), none⟩,
    ⟨(some 9), .mv (.t 2), none⟩,
    ⟨(some 10), .call f_calls_Held [(.t 8), (.t 9)], none⟩,
    ⟨(some 7), .alloc [(.int .i64 0)], none⟩,
    ⟨none, .st (.t 7) (.t 10) 1, none⟩])
  (.seq (.reg [
    ⟨(some 11), .ld (.t 3) (some 131), none⟩,
    ⟨(some 12), .mkf (.func f_calls_Want_1) [] [(.t 4), (.t 7)], none⟩,
    ⟨(some 13), .call f_calls_those [(.t 11), (.t 12)], none⟩,
    ⟨(some 6), .mv (.t 13), none⟩])
  (.ret)))⟩

/-- crossbuck/crossbucklaw15.awake -/
def cc_law15_awake (f_calls_Step f_calls_Want : Nat) : CFn := ⟨25, [.tmp 0],
  .seq (.reg [
    ⟨(some 0), .mv (.k (.bool false)), none⟩])
  (.seq (.reg [
    ⟨(some 1), .alloc z131_45020, none⟩])
  (.seq (.reg [
    ⟨(some 3), .build z13_14216 [(0, 1, (.k (.bool true))), (11, 1, (.k (.bool true)))], none⟩,
    ⟨(some 4), .fa (.t 1) 0, none⟩,
    ⟨(some 5), .iaA (.t 4) (.k (.int .i64 2)) 8 13, none⟩,
    ⟨none, .st (.t 5) (.t 3) 13, none⟩])
  (.seq (.reg [
    ⟨(some 6), .ld (.t 1) (some 131), none⟩,
    ⟨(some 7), .build [(.int .i64 0), (.int .i64 0)] [], none⟩,
    ⟨(some 8), .call f_calls_Step [(.t 6), (.t 7), (.k (.int .i64 4)), (.k (.int .i64 0)), (.k (.int .i64 0)), (.k (.int .i64 0))], none⟩,
    ⟨(some 2), .alloc [(.int .i64 0), (.int .i64 0)], none⟩,
    ⟨none, .st (.t 2) (.t 8) 2, none⟩])
  (.seq (.reg [
    ⟨(some 9), .fa (.t 2) 0, none⟩,
    ⟨(some 10), .ld (.t 9) none, none⟩,
    ⟨(some 11), .bin .eql (.t 10) (.k (.int .i64 4)), none⟩,
    ⟨(some 12), .mv (.t 11), none⟩,
    ⟨(some 13), .ld (.t 1) (some 131), (some (12, true))⟩,
    ⟨(some 14), .ld (.t 2) (some 2), (some (12, true))⟩,
    ⟨(some 15), .call f_calls_Want [(.t 13), (.t 14), (.k (.int .i64 0))], (some (12, true))⟩,
    ⟨(some 16), .bin .eql (.t 15) (.k (.int .i64 4)), (some (12, true))⟩,
    ⟨(some 17), .pick (.t 12) (.t 16) (.k (.bool false)), none⟩,
    ⟨(some 18), .mv (.t 17), none⟩,
    ⟨(some 19), .ld (.t 1) (some 131), (some (18, true))⟩,
    ⟨(some 20), .ld (.t 2) (some 2), (some (18, true))⟩,
    ⟨(some 21), .call f_calls_Step [(.t 19), (.t 20), (.k (.int .i64 0)), (.k (.int .i64 0)), (.k (.int .i64 4)), (.k (.int .i64 0))], (some (18, true))⟩,
    ⟨(some 22), .fld (.t 21) 0 none, (some (18, true))⟩,
    ⟨(some 23), .bin .eql (.t 22) (.k (.int .i64 0)), (some (18, true))⟩,
    ⟨(some 24), .pick (.t 18) (.t 23) (.k (.bool false)), none⟩,
    ⟨(some 0), .mv (.t 24), none⟩])
  (.ret)))))⟩

/-- crossbuck/crossbucklaw00.Place -/
def cc_law00_Place : CFn := ⟨15, [.tmp 4],
  .seq (.reg [
    ⟨(some 4), .mv (.k (.int .i64 0)), none⟩])
  (.seq (.reg [
    ⟨(some 6), .mv (.t 0), none⟩,
    ⟨(some 7), .mv (.t 1), none⟩,
    ⟨(some 8), .bin .rem (.t 6) (.t 7), none⟩,
    ⟨(some 5), .mv (.t 8), none⟩])
  (.join (.seq (.reg [
     ⟨(some 9), .mv (.t 5), none⟩,
     ⟨(some 10), .bin .lss (.t 9) (.k (.int .i64 0)), none⟩])
   (.cond (.t 10) (.reg [
      ⟨(some 11), .mv (.t 5), none⟩,
      ⟨(some 12), .mv (.t 1), none⟩,
      ⟨(some 13), .bin .add (.t 11) (.t 12), none⟩,
      ⟨(some 5), .mv (.t 13), none⟩])
    (.skip)))
  (.seq (.reg [
    ⟨(some 14), .mv (.t 5), none⟩,
    ⟨(some 4), .mv (.t 14), none⟩])
  (.ret))))⟩

/-- crossbuck/crossbuckref01.Of -/
def cc_ref01_Of : CFn := ⟨28, [.tmp 2],
  .seq (.reg [
    ⟨(some 2), .mv (.k (.int .i64 0)), none⟩])
  (.seq (.reg [
    ⟨(some 3), .mv (.k (.int .i64 0)), none⟩])
  (.join (.seq (.reg [
     ⟨(some 4), .mv (.k (.int .i64 0)), none⟩])
   (.block 0 (.loop (.join (.seq (.reg [
        ⟨(some 6), .mv (.t 4), none⟩,
        ⟨(some 7), .bin .lss (.t 6) (.k (.int .i64 8)), none⟩])
      (.cond (.t 7) (.skip)
       (.exit 0)))
     (.join (.block 1 (.seq (.reg [
         ⟨(some 5), .mv (.k (.int .i64 0)), none⟩])
       (.block 2 (.loop (.join (.seq (.reg [
            ⟨(some 10), .mv (.t 5), none⟩,
            ⟨(some 11), .mv (.t 0), none⟩,
            ⟨(some 12), .lenS (.t 11), none⟩,
            ⟨(some 13), .bin .lss (.t 10) (.t 12), none⟩])
          (.cond (.t 13) (.skip)
           (.exit 2)))
         (.join (.block 3 (.seq (.reg [
             ⟨(some 16), .mv (.t 0), none⟩,
             ⟨(some 17), .mv (.t 5), none⟩,
             ⟨(some 18), .iaS (.t 16) (.t 17) 1, none⟩,
             ⟨(some 19), .ld (.t 18) none, none⟩,
             ⟨(some 20), .mv (.t 4), none⟩,
             ⟨(some 21), .bin .eql (.t 19) (.t 20), none⟩])
           (.cond (.t 21) (.seq (.reg [
              ⟨(some 22), .mv (.t 3), none⟩,
              ⟨(some 23), .mv (.t 4), none⟩,
              ⟨(some 24), .cvII .u64 (.t 23), none⟩,
              ⟨(some 25), .bin .shl (.k (.int .i64 1)) (.t 24), none⟩,
              ⟨(some 26), .bin .or (.t 22) (.t 25), none⟩,
              ⟨(some 3), .mv (.t 26), none⟩])
            (.exit 2))
            (.skip))))
         (.reg [
           ⟨(some 14), .mv (.t 5), none⟩,
           ⟨(some 15), .bin .add (.t 14) (.k (.int .i64 1)), none⟩,
           ⟨(some 5), .mv (.t 15), none⟩])))))))
     (.reg [
       ⟨(some 8), .mv (.t 4), none⟩,
       ⟨(some 9), .bin .add (.t 8) (.k (.int .i64 1)), none⟩,
       ⟨(some 4), .mv (.t 9), none⟩]))))))
  (.seq (.reg [
    ⟨(some 27), .mv (.t 3), none⟩,
    ⟨(some 2), .mv (.t 27), none⟩])
  (.ret))))⟩

/-- crossbuck/crossbuckref01.Has -/
def cc_ref01_Has : CFn := ⟨19, [.tmp 4],
  .seq (.reg [
    ⟨(some 4), .mv (.k (.bool false)), none⟩])
  (.seq (.reg [
    ⟨(some 5), .mv (.t 1), none⟩,
    ⟨(some 6), .bin .geq (.t 5) (.k (.int .i64 0)), none⟩,
    ⟨(some 7), .mv (.t 6), none⟩,
    ⟨(some 8), .mv (.t 1), (some (7, true))⟩,
    ⟨(some 9), .bin .lss (.t 8) (.k (.int .i64 8)), (some (7, true))⟩,
    ⟨(some 10), .pick (.t 7) (.t 9) (.k (.bool false)), none⟩,
    ⟨(some 11), .mv (.t 10), none⟩,
    ⟨(some 12), .mv (.t 0), (some (11, true))⟩,
    ⟨(some 13), .mv (.t 1), (some (11, true))⟩,
    ⟨(some 14), .cvII .u64 (.t 13), (some (11, true))⟩,
    ⟨(some 15), .bin .shr (.t 12) (.t 14), (some (11, true))⟩,
    ⟨(some 16), .bin .and (.t 15) (.k (.int .i64 1)), (some (11, true))⟩,
    ⟨(some 17), .bin .eql (.t 16) (.k (.int .i64 1)), (some (11, true))⟩,
    ⟨(some 18), .pick (.t 11) (.t 17) (.k (.bool false)), none⟩,
    ⟨(some 4), .mv (.t 18), none⟩])
  (.ret))⟩

/-- crossbuck/calls.Held -/
def cc_calls_Held (f_calls_Held_1 f_calls_those : Nat) : CFn := ⟨8, [.tmp 4],
  .seq (.reg [
    ⟨(some 2), .box (.t 0), none⟩,
    ⟨(some 3), .box (.t 1), none⟩,
    ⟨(some 4), .mv (.k (.int .i64 0)), none⟩])
  (.seq (.reg [
    ⟨(some 5), .ld (.t 2) (some 131), none⟩,
    ⟨(some 6), .mkf (.func f_calls_Held_1) [] [(.t 3)], none⟩,
    ⟨(some 7), .call f_calls_those [(.t 5), (.t 6)], none⟩,
    ⟨(some 4), .mv (.t 7), none⟩])
  (.ret))⟩

/-- crossbuck/crossbucklaw00.rows -/
def cc_law00_rows (f_law00_from e_int e_2_int : Nat) : CFn := ⟨78, [.tmp 4],
  .seq (.reg [
    ⟨(some 4), .mv (.k (.int .i64 0)), none⟩])
  (.seq (.reg [
    ⟨(some 12), .mv (.t 1), none⟩,
    ⟨(some 13), .call f_law00_from [(.t 12), (.k (.int .i64 0)), (.k (.int .i64 3))], none⟩,
    ⟨(some 14), .bin .add (.k (.int .i64 1)) (.t 13), none⟩,
    ⟨(some 5), .mv (.t 14), none⟩])
  (.seq (.reg [
    ⟨(some 6), .mv (.k (.int .i64 0)), none⟩])
  (.join (.seq (.reg [
     ⟨(some 7), .mv (.k (.int .i64 0)), none⟩])
   (.block 0 (.loop (.join (.seq (.reg [
        ⟨(some 15), .mv (.t 7), none⟩,
        ⟨(some 16), .mv (.t 5), none⟩,
        ⟨(some 17), .bin .lss (.t 15) (.t 16), none⟩])
      (.cond (.t 17) (.skip)
       (.exit 0)))
     (.join (.block 1 (.seq (.reg [
         ⟨(some 8), .alloc [.nils, .nils], none⟩])
       (.join (.seq (.reg [
          ⟨(some 9), .mv (.k (.int .i64 0)), none⟩])
        (.block 2 (.loop (.join (.seq (.reg [
             ⟨(some 20), .mv (.t 9), none⟩,
             ⟨(some 21), .bin .lss (.t 20) (.k (.int .i64 2)), none⟩])
           (.cond (.t 21) (.skip)
            (.exit 2)))
          (.join (.block 3 (.seq (.reg [
              ⟨(some 24), .mv (.t 1), none⟩,
              ⟨(some 25), .mv (.t 7), none⟩,
              ⟨(some 26), .bin .mul (.k (.int .i64 2)) (.t 25), none⟩,
              ⟨(some 27), .bin .add (.k (.int .i64 1)) (.t 26), none⟩,
              ⟨(some 28), .mv (.t 9), none⟩,
              ⟨(some 29), .bin .add (.t 27) (.t 28), none⟩,
              ⟨(some 30), .call f_law00_from [(.t 24), (.t 29), (.k (.int .i64 3))], none⟩,
              ⟨(some 10), .mv (.t 30), none⟩])
            (.join (.seq (.reg [
               ⟨(some 31), .mv (.t 9), none⟩,
               ⟨(some 32), .bin .eql (.t 31) (.k (.int .i64 1)), none⟩,
               ⟨(some 33), .mv (.t 32), none⟩,
               ⟨(some 34), .mv (.t 10), (some (33, true))⟩,
               ⟨(some 35), .bin .eql (.t 34) (.k (.int .i64 0)), (some (33, true))⟩,
               ⟨(some 36), .pick (.t 33) (.t 35) (.k (.bool false)), none⟩,
               ⟨(some 37), .mv (.t 36), none⟩,
               ⟨(some 38), .iaA (.t 8) (.k (.int .i64 0)) 2 1, (some (37, true))⟩,
               ⟨(some 39), .ld (.t 38) none, (some (37, true))⟩,
               ⟨(some 40), .lenS (.t 39), (some (37, true))⟩,
               ⟨(some 41), .bin .eql (.t 40) (.k (.int .i64 0)), (some (37, true))⟩,
               ⟨(some 42), .pick (.t 37) (.t 41) (.k (.bool false)), none⟩])
             (.cond (.t 42) (.reg [
                ⟨(some 10), .mv (.k (.int .i64 1)), none⟩])
              (.skip)))
            (.seq (.reg [
              ⟨(some 11), .mv (.k (.int .i64 0)), none⟩])
            (.block 4 (.loop (.join (.seq (.reg [
                 ⟨(some 43), .mv (.t 11), none⟩,
                 ⟨(some 44), .mv (.t 10), none⟩,
                 ⟨(some 45), .bin .lss (.t 43) (.t 44), none⟩,
                 ⟨(some 46), .mv (.t 45), none⟩,
                 ⟨(some 47), .mv (.t 6), (some (46, true))⟩,
                 ⟨(some 48), .mv (.t 5), (some (46, true))⟩,
                 ⟨(some 49), .bin .sub (.t 48) (.k (.int .i64 1)), (some (46, true))⟩,
                 ⟨(some 50), .mv (.t 7), (some (46, true))⟩,
                 ⟨(some 51), .bin .sub (.t 49) (.t 50), (some (46, true))⟩,
                 ⟨(some 52), .bin .sub (.k (.int .i64 8)) (.t 51), (some (46, true))⟩,
                 ⟨(some 53), .bin .lss (.t 47) (.t 52), (some (46, true))⟩,
                 ⟨(some 54), .pick (.t 46) (.t 53) (.k (.bool false)), none⟩])
               (.cond (.t 54) (.skip)
                (.exit 4)))
              (.join (.block 5 (.seq (.reg [
                  ⟨(some 57), .mv (.t 9), none⟩,
                  ⟨(some 58), .mv (.t 9), none⟩,
                  ⟨(some 59), .iaA (.t 8) (.t 58) 2 1, none⟩,
                  ⟨(some 60), .ld (.t 59) none, none⟩,
                  ⟨(some 61), .mv (.t 6), none⟩,
                  ⟨(some 62), .bsl e_int 1 [(.t 61)], none⟩,
                  ⟨(some 63), .app e_int 1 8 (.t 60) (.t 62), none⟩,
                  ⟨(some 64), .iaA (.t 8) (.t 57) 2 1, none⟩,
                  ⟨none, .st (.t 64) (.t 63) 1, none⟩])
                (.reg [
                  ⟨(some 65), .mv (.t 6), none⟩,
                  ⟨(some 66), .bin .add (.t 65) (.k (.int .i64 1)), none⟩,
                  ⟨(some 6), .mv (.t 66), none⟩])))
              (.reg [
                ⟨(some 55), .mv (.t 11), none⟩,
                ⟨(some 56), .bin .add (.t 55) (.k (.int .i64 1)), none⟩,
                ⟨(some 11), .mv (.t 56), none⟩])))))))))
          (.reg [
            ⟨(some 22), .mv (.t 9), none⟩,
            ⟨(some 23), .bin .add (.t 22) (.k (.int .i64 1)), none⟩,
            ⟨(some 9), .mv (.t 23), none⟩]))))))
       (.reg [
         ⟨(some 67), .mv (.t 0), none⟩,
         ⟨(some 68), .mv (.t 0), none⟩,
         ⟨(some 69), .nc (.t 68), none⟩,
         ⟨(some 70), .fa (.t 69) 104, none⟩,
         ⟨(some 71), .ld (.t 70) none, none⟩,
         ⟨(some 72), .ld (.t 8) (some 2), none⟩,
         ⟨(some 73), .bsl e_2_int 2 [(.t 72)], none⟩,
         ⟨(some 74), .app e_2_int 2 48 (.t 71) (.t 73), none⟩,
         ⟨(some 75), .nc (.t 67), none⟩,
         ⟨(some 76), .fa (.t 75) 104, none⟩,
         ⟨none, .st (.t 76) (.t 74) 1, none⟩]))))
     (.reg [
       ⟨(some 18), .mv (.t 7), none⟩,
       ⟨(some 19), .bin .add (.t 18) (.k (.int .i64 1)), none⟩,
       ⟨(some 7), .mv (.t 19), none⟩]))))))
  (.seq (.reg [
    ⟨(some 77), .mv (.t 6), none⟩,
    ⟨(some 4), .mv (.t 77), none⟩])
  (.ret)))))⟩

/-- crossbuck/crossbucklaw00.phase -/
def cc_law00_phase (f_law00_from : Nat) : CFn := ⟨95, [.cell 4 (some 13)],
  .seq (.reg [
    ⟨(some 4), .alloc z13_14216, none⟩])
  (.seq (.reg [
    ⟨(some 6), .mv (.t 0), none⟩,
    ⟨(some 7), .mv (.t 1), none⟩,
    ⟨(some 8), .call f_law00_from [(.t 6), (.t 7), (.k (.int .i64 12))], none⟩,
    ⟨(some 9), .bin .add (.k (.int .i64 1)) (.t 8), none⟩,
    ⟨(some 10), .mv (.t 0), none⟩,
    ⟨(some 11), .mv (.t 1), none⟩,
    ⟨(some 12), .bin .add (.t 11) (.k (.int .i64 1)), none⟩,
    ⟨(some 13), .call f_law00_from [(.t 10), (.t 12), (.k (.int .i64 9))], none⟩,
    ⟨(some 14), .mv (.t 0), none⟩,
    ⟨(some 15), .mv (.t 1), none⟩,
    ⟨(some 16), .bin .add (.t 15) (.k (.int .i64 2)), none⟩,
    ⟨(some 17), .call f_law00_from [(.t 14), (.t 16), (.k (.int .i64 6))], none⟩,
    ⟨(some 18), .bin .add (.k (.int .i64 1)) (.t 17), none⟩,
    ⟨(some 19), .mv (.t 0), none⟩,
    ⟨(some 20), .mv (.t 1), none⟩,
    ⟨(some 21), .bin .add (.t 20) (.k (.int .i64 3)), none⟩,
    ⟨(some 22), .call f_law00_from [(.t 19), (.t 21), (.k (.int .i64 4))], none⟩,
    ⟨(some 23), .bin .add (.k (.int .i64 10)) (.t 22), none⟩,
    ⟨(some 24), .mv (.t 0), none⟩,
    ⟨(some 25), .mv (.t 1), none⟩,
    ⟨(some 26), .bin .add (.t 25) (.k (.int .i64 4)), none⟩,
    ⟨(some 27), .call f_law00_from [(.t 24), (.t 26), (.k (.int .i64 5))], none⟩,
    ⟨(some 28), .build z13_14216 [(0, 1, (.k (.bool true))), (1, 1, (.t 9)), (2, 1, (.t 13)), (5, 1, (.t 18)), (6, 1, (.t 23)), (7, 1, (.t 27))], none⟩,
    ⟨(some 5), .alloc z13_14216, none⟩,
    ⟨none, .st (.t 5) (.t 28) 13, none⟩])
  (.seq (.reg [
    ⟨(some 29), .fa (.t 5) 1, none⟩,
    ⟨(some 30), .ld (.t 29) none, none⟩,
    ⟨(some 31), .mv (.t 0), none⟩,
    ⟨(some 32), .mv (.t 1), none⟩,
    ⟨(some 33), .bin .add (.t 32) (.k (.int .i64 5)), none⟩,
    ⟨(some 34), .call f_law00_from [(.t 31), (.t 33), (.k (.int .i64 25))], none⟩,
    ⟨(some 35), .bin .add (.t 30) (.t 34), none⟩,
    ⟨(some 36), .fa (.t 5) 3, none⟩,
    ⟨none, .st (.t 36) (.t 35) 1, none⟩])
  (.seq (.reg [
    ⟨(some 37), .fa (.t 5) 3, none⟩,
    ⟨(some 38), .ld (.t 37) none, none⟩,
    ⟨(some 39), .mv (.t 0), none⟩,
    ⟨(some 40), .mv (.t 1), none⟩,
    ⟨(some 41), .bin .add (.t 40) (.k (.int .i64 6)), none⟩,
    ⟨(some 42), .call f_law00_from [(.t 39), (.t 41), (.k (.int .i64 15))], none⟩,
    ⟨(some 43), .bin .add (.t 38) (.t 42), none⟩,
    ⟨(some 44), .fa (.t 5) 4, none⟩,
    ⟨none, .st (.t 44) (.t 43) 1, none⟩])
  (.join (.seq (.reg [
     ⟨(some 45), .mv (.t 0), none⟩,
     ⟨(some 46), .mv (.t 1), none⟩,
     ⟨(some 47), .bin .add (.t 46) (.k (.int .i64 7)), none⟩,
     ⟨(some 48), .call f_law00_from [(.t 45), (.t 47), (.k (.int .i64 2))], none⟩,
     ⟨(some 49), .bin .eql (.t 48) (.k (.int .i64 1)), none⟩])
   (.cond (.t 49) (.seq (.reg [
      ⟨(some 50), .mv (.t 0), none⟩,
      ⟨(some 51), .mv (.t 1), none⟩,
      ⟨(some 52), .bin .add (.t 51) (.k (.int .i64 8)), none⟩,
      ⟨(some 53), .call f_law00_from [(.t 50), (.t 52), (.k (.int .i64 10))], none⟩,
      ⟨(some 54), .bin .add (.k (.int .i64 1)) (.t 53), none⟩,
      ⟨(some 55), .fa (.t 5) 8, none⟩,
      ⟨none, .st (.t 55) (.t 54) 1, none⟩])
    (.reg [
      ⟨(some 56), .mv (.t 0), none⟩,
      ⟨(some 57), .mv (.t 1), none⟩,
      ⟨(some 58), .bin .add (.t 57) (.k (.int .i64 8)), none⟩,
      ⟨(some 59), .call f_law00_from [(.t 56), (.t 58), (.k (.int .i64 97))], none⟩,
      ⟨(some 60), .bin .quo (.t 59) (.k (.int .i64 10)), none⟩,
      ⟨(some 61), .bin .add (.k (.int .i64 1)) (.t 60), none⟩,
      ⟨(some 62), .fa (.t 5) 9, none⟩,
      ⟨none, .st (.t 62) (.t 61) 1, none⟩]))
    (.skip)))
  (.seq (.reg [
    ⟨(some 63), .mv (.t 0), none⟩,
    ⟨(some 64), .mv (.t 1), none⟩,
    ⟨(some 65), .bin .add (.t 64) (.k (.int .i64 9)), none⟩,
    ⟨(some 66), .call f_law00_from [(.t 63), (.t 65), (.k (.int .i64 7))], none⟩,
    ⟨(some 67), .fa (.t 5) 10, none⟩,
    ⟨none, .st (.t 67) (.t 66) 1, none⟩])
  (.join (.seq (.reg [
     ⟨(some 68), .fa (.t 5) 10, none⟩,
     ⟨(some 69), .ld (.t 68) none, none⟩,
     ⟨(some 70), .bin .gtr (.t 69) (.k (.int .i64 3)), none⟩,
     ⟨(some 71), .mv (.t 70), none⟩,
     ⟨(some 72), .fa (.t 5) 10, (some (71, false))⟩,
     ⟨(some 73), .ld (.t 72) none, (some (71, false))⟩,
     ⟨(some 74), .bin .eql (.t 73) (.k (.int .i64 3)), (some (71, false))⟩,
     ⟨(some 75), .mv (.t 74), (some (71, false))⟩,
     ⟨(some 76), .fa (.t 5) 8, (some (75, true))⟩,
     ⟨(some 77), .ld (.t 76) none, (some (75, true))⟩,
     ⟨(some 78), .bin .eql (.t 77) (.k (.int .i64 0)), (some (75, true))⟩,
     ⟨(some 79), .pick (.t 75) (.t 78) (.k (.bool false)), (some (71, false))⟩,
     ⟨(some 80), .pick (.t 71) (.k (.bool true)) (.t 79), none⟩])
   (.cond (.t 80) (.reg [
      ⟨(some 81), .fa (.t 5) 10, none⟩,
      ⟨none, .st (.t 81) (.k (.int .i64 0)) 1, none⟩])
    (.skip)))
  (.seq (.reg [
    ⟨(some 82), .mv (.t 0), none⟩,
    ⟨(some 83), .mv (.t 1), none⟩,
    ⟨(some 84), .bin .add (.t 83) (.k (.int .i64 10)), none⟩,
    ⟨(some 85), .call f_law00_from [(.t 82), (.t 84), (.k (.int .i64 3))], none⟩,
    ⟨(some 86), .bin .gtr (.t 85) (.k (.int .i64 0)), none⟩,
    ⟨(some 87), .fa (.t 5) 11, none⟩,
    ⟨none, .st (.t 87) (.t 86) 1, none⟩])
  (.seq (.reg [
    ⟨(some 88), .mv (.t 0), none⟩,
    ⟨(some 89), .mv (.t 1), none⟩,
    ⟨(some 90), .bin .add (.t 89) (.k (.int .i64 11)), none⟩,
    ⟨(some 91), .call f_law00_from [(.t 88), (.t 90), (.k (.int .i64 4))], none⟩,
    ⟨(some 92), .bin .eql (.t 91) (.k (.int .i64 1)), none⟩,
    ⟨(some 93), .fa (.t 5) 12, none⟩,
    ⟨none, .st (.t 93) (.t 92) 1, none⟩])
  (.seq (.reg [
    ⟨(some 94), .ld (.t 5) (some 13), none⟩,
    ⟨none, .st (.t 4) (.t 94) 13, none⟩])
  (.ret))))))))))⟩

/-- crossbuck/crossbuckref08.Beside -/
def cc_ref08_Beside (f_ref08_Where : Nat) : CFn := ⟨41, [.tmp 6],
  .seq (.reg [
    ⟨(some 3), .box (.t 0), none⟩,
    ⟨(some 6), .mv (.k (.bool false)), none⟩])
  (.seq (.reg [
    ⟨(some 12), .ld (.t 3) (some 131), none⟩,
    ⟨(some 13), .mv (.t 1), none⟩,
    ⟨(some 14), .call f_ref08_Where [(.t 12), (.t 13)], none⟩,
    ⟨(some 11), .mv (.t 14), none⟩,
    ⟨(some 15), .ext (.t 11) 0, none⟩,
    ⟨(some 16), .ext (.t 11) 1, none⟩,
    ⟨(some 7), .alloc [(.int .i64 0), (.int .i64 0), (.int .i64 0), (.int .i64 0)], none⟩,
    ⟨none, .st (.t 7) (.t 15) 4, none⟩,
    ⟨(some 8), .mv (.t 16), none⟩])
  (.seq (.reg [
    ⟨(some 18), .ld (.t 3) (some 131), none⟩,
    ⟨(some 19), .mv (.t 2), none⟩,
    ⟨(some 20), .call f_ref08_Where [(.t 18), (.t 19)], none⟩,
    ⟨(some 17), .mv (.t 20), none⟩,
    ⟨(some 21), .ext (.t 17) 0, none⟩,
    ⟨(some 22), .ext (.t 17) 1, none⟩,
    ⟨(some 9), .alloc [(.int .i64 0), (.int .i64 0), (.int .i64 0), (.int .i64 0)], none⟩,
    ⟨none, .st (.t 9) (.t 21) 4, none⟩,
    ⟨(some 10), .mv (.t 22), none⟩])
  (.seq (.reg [
    ⟨(some 23), .mv (.t 8), none⟩,
    ⟨(some 24), .mv (.t 23), none⟩,
    ⟨(some 25), .mv (.t 10), (some (24, true))⟩,
    ⟨(some 26), .pick (.t 24) (.t 25) (.k (.bool false)), none⟩,
    ⟨(some 27), .mv (.t 26), none⟩,
    ⟨(some 28), .fa (.t 7) 0, (some (27, true))⟩,
    ⟨(some 29), .ld (.t 28) none, (some (27, true))⟩,
    ⟨(some 30), .fa (.t 9) 0, (some (27, true))⟩,
    ⟨(some 31), .ld (.t 30) none, (some (27, true))⟩,
    ⟨(some 32), .bin .eql (.t 29) (.t 31), (some (27, true))⟩,
    ⟨(some 33), .pick (.t 27) (.t 32) (.k (.bool false)), none⟩,
    ⟨(some 34), .mv (.t 33), none⟩,
    ⟨(some 35), .fa (.t 7) 1, (some (34, true))⟩,
    ⟨(some 36), .ld (.t 35) none, (some (34, true))⟩,
    ⟨(some 37), .fa (.t 9) 1, (some (34, true))⟩,
    ⟨(some 38), .ld (.t 37) none, (some (34, true))⟩,
    ⟨(some 39), .bin .neq (.t 36) (.t 38), (some (34, true))⟩,
    ⟨(some 40), .pick (.t 34) (.t 39) (.k (.bool false)), none⟩,
    ⟨(some 6), .mv (.t 40), none⟩])
  (.ret))))⟩

/-- crossbuck/crossbucklaw00.from -/
def cc_law00_from (f_law00_At f_law00_Place : Nat) : CFn := ⟨12, [.tmp 6],
  .seq (.reg [
    ⟨(some 6), .mv (.k (.int .i64 0)), none⟩])
  (.seq (.reg [
    ⟨(some 7), .mv (.t 0), none⟩,
    ⟨(some 8), .mv (.t 1), none⟩,
    ⟨(some 9), .call f_law00_At [(.t 7), (.t 8)], none⟩,
    ⟨(some 10), .mv (.t 2), none⟩,
    ⟨(some 11), .call f_law00_Place [(.t 9), (.t 10)], none⟩,
    ⟨(some 6), .mv (.t 11), none⟩])
  (.ret))⟩

/-- crossbuck/crossbuckref01.With -/
def cc_ref01_With (f_ref01_List e_int f_ref01_Of : Nat) : CFn := ⟨11, [.tmp 4],
  .seq (.reg [
    ⟨(some 4), .mv (.k (.int .i64 0)), none⟩])
  (.seq (.reg [
    ⟨(some 5), .mv (.t 0), none⟩,
    ⟨(some 6), .call f_ref01_List [(.t 5)], none⟩,
    ⟨(some 7), .mv (.t 1), none⟩,
    ⟨(some 8), .bsl e_int 1 [(.t 7)], none⟩,
    ⟨(some 9), .app e_int 1 8 (.t 6) (.t 8), none⟩,
    ⟨(some 10), .call f_ref01_Of [(.t 9)], none⟩,
    ⟨(some 4), .mv (.t 10), none⟩])
  (.ret))⟩

/-- crossbuck/crossbucklaw00.detector -/
def cc_law00_detector (f_law00_from : Nat) : CFn := ⟨66, [.cell 6 (some 7)],
  .seq (.reg [
    ⟨(some 6), .alloc [(.int .i64 0), (.float .f64 0), (.float .f64 0), (.float .f64 0), (.float .f64 0), (.int .i64 0), (.int .i64 0)], none⟩])
  (.seq (.reg [
    ⟨(some 8), .mv (.t 0), none⟩,
    ⟨(some 9), .mv (.t 1), none⟩,
    ⟨(some 10), .mv (.t 2), none⟩,
    ⟨(some 11), .call f_law00_from [(.t 8), (.t 9), (.t 10)], none⟩,
    ⟨(some 12), .build [(.float .f64 0), (.float .f64 0), (.float .f64 0), (.float .f64 0)] [(0, 1, (.k (.float .f64 4617315517961601024))), (1, 1, (.k (.float .f64 4621819117588971520))), (2, 1, (.k (.float .f64 4607182418800017408))), (3, 1, (.k (.float .f64 4602678819172646912)))], none⟩,
    ⟨(some 13), .mv (.t 0), none⟩,
    ⟨(some 14), .mv (.t 1), none⟩,
    ⟨(some 15), .bin .add (.t 14) (.k (.int .i64 1)), none⟩,
    ⟨(some 16), .call f_law00_from [(.t 13), (.t 15), (.k (.int .i64 4))], none⟩,
    ⟨(some 17), .ixA (.t 12) (.t 16) 4 1 none, none⟩,
    ⟨(some 18), .build [(.int .i64 0), (.float .f64 0), (.float .f64 0), (.float .f64 0), (.float .f64 0), (.int .i64 0), (.int .i64 0)] [(0, 1, (.t 11)), (1, 1, (.t 17))], none⟩,
    ⟨(some 7), .alloc [(.int .i64 0), (.float .f64 0), (.float .f64 0), (.float .f64 0), (.float .f64 0), (.int .i64 0), (.int .i64 0)], none⟩,
    ⟨none, .st (.t 7) (.t 18) 7, none⟩])
  (.seq (.reg [
    ⟨(some 19), .fa (.t 7) 1, none⟩,
    ⟨(some 20), .ld (.t 19) none, none⟩,
    ⟨(some 21), .build [(.float .f64 0), (.float .f64 0), (.float .f64 0)] [(0, 1, (.k (.float .f64 4602678819172646912))), (1, 1, (.k (.float .f64 4607182418800017408))), (2, 1, (.k (.float .f64 4598175219545276416)))], none⟩,
    ⟨(some 22), .mv (.t 0), none⟩,
    ⟨(some 23), .mv (.t 1), none⟩,
    ⟨(some 24), .bin .add (.t 23) (.k (.int .i64 2)), none⟩,
    ⟨(some 25), .call f_law00_from [(.t 22), (.t 24), (.k (.int .i64 3))], none⟩,
    ⟨(some 26), .ixA (.t 21) (.t 25) 3 1 none, none⟩,
    ⟨(some 27), .bin .mul (.t 20) (.t 26), none⟩,
    ⟨(some 28), .fa (.t 7) 2, none⟩,
    ⟨none, .st (.t 28) (.t 27) 1, none⟩])
  (.seq (.reg [
    ⟨(some 29), .mv (.t 0), none⟩,
    ⟨(some 30), .mv (.t 1), none⟩,
    ⟨(some 31), .bin .add (.t 30) (.k (.int .i64 3)), none⟩,
    ⟨(some 32), .call f_law00_from [(.t 29), (.t 31), (.k (.int .i64 4))], none⟩,
    ⟨(some 33), .cvIF .f64 (.t 32), none⟩,
    ⟨(some 34), .bin .quo (.t 33) (.k (.float .f64 4621819117588971520)), none⟩,
    ⟨(some 35), .fa (.t 7) 3, none⟩,
    ⟨none, .st (.t 35) (.t 34) 1, none⟩])
  (.seq (.reg [
    ⟨(some 36), .mv (.t 0), none⟩,
    ⟨(some 37), .mv (.t 1), none⟩,
    ⟨(some 38), .bin .add (.t 37) (.k (.int .i64 4)), none⟩,
    ⟨(some 39), .call f_law00_from [(.t 36), (.t 38), (.k (.int .i64 6))], none⟩,
    ⟨(some 40), .cvIF .f64 (.t 39), none⟩,
    ⟨(some 41), .bin .quo (.t 40) (.k (.float .f64 4621819117588971520)), none⟩,
    ⟨(some 42), .fa (.t 7) 4, none⟩,
    ⟨none, .st (.t 42) (.t 41) 1, none⟩])
  (.join (.seq (.reg [
     ⟨(some 43), .mv (.t 0), none⟩,
     ⟨(some 44), .mv (.t 1), none⟩,
     ⟨(some 45), .bin .add (.t 44) (.k (.int .i64 5)), none⟩,
     ⟨(some 46), .call f_law00_from [(.t 43), (.t 45), (.k (.int .i64 3))], none⟩,
     ⟨(some 47), .bin .eql (.t 46) (.k (.int .i64 1)), none⟩])
   (.cond (.t 47) (.reg [
      ⟨(some 48), .mv (.t 0), none⟩,
      ⟨(some 49), .mv (.t 1), none⟩,
      ⟨(some 50), .bin .add (.t 49) (.k (.int .i64 6)), none⟩,
      ⟨(some 51), .call f_law00_from [(.t 48), (.t 50), (.k (.int .i64 60))], none⟩,
      ⟨(some 52), .bin .add (.k (.int .i64 20)) (.t 51), none⟩,
      ⟨(some 53), .fa (.t 7) 5, none⟩,
      ⟨none, .st (.t 53) (.t 52) 1, none⟩])
    (.skip)))
  (.join (.seq (.reg [
     ⟨(some 54), .mv (.t 0), none⟩,
     ⟨(some 55), .mv (.t 1), none⟩,
     ⟨(some 56), .bin .add (.t 55) (.k (.int .i64 5)), none⟩,
     ⟨(some 57), .call f_law00_from [(.t 54), (.t 56), (.k (.int .i64 9))], none⟩,
     ⟨(some 58), .bin .eql (.t 57) (.k (.int .i64 2)), none⟩])
   (.cond (.t 58) (.reg [
      ⟨(some 59), .mv (.t 0), none⟩,
      ⟨(some 60), .mv (.t 1), none⟩,
      ⟨(some 61), .bin .add (.t 60) (.k (.int .i64 7)), none⟩,
      ⟨(some 62), .call f_law00_from [(.t 59), (.t 61), (.k (.int .i64 300))], none⟩,
      ⟨(some 63), .bin .add (.k (.int .i64 60)) (.t 62), none⟩,
      ⟨(some 64), .fa (.t 7) 6, none⟩,
      ⟨none, .st (.t 64) (.t 63) 1, none⟩])
    (.skip)))
  (.seq (.reg [
    ⟨(some 65), .ld (.t 7) (some 7), none⟩,
    ⟨none, .st (.t 6) (.t 65) 7, none⟩])
  (.ret))))))))⟩

/-- crossbuck/crossbucklaw00.rail -/
def cc_law00_rail (f_law00_from f_law00_with : Nat) : CFn := ⟨119, [.cell 8 (some 11)],
  .seq (.reg [
    ⟨(some 4), .box (.t 0), none⟩,
    ⟨(some 8), .alloc z11_58867, none⟩])
  (.seq (.reg [
    ⟨(some 11), .ld (.t 4) (some 131), none⟩,
    ⟨(some 12), .mv (.t 1), none⟩,
    ⟨(some 13), .mv (.t 2), none⟩,
    ⟨(some 14), .mv (.t 3), none⟩,
    ⟨(some 15), .call f_law00_from [(.t 12), (.t 13), (.t 14)], none⟩,
    ⟨(some 16), .mv (.t 1), none⟩,
    ⟨(some 17), .mv (.t 2), none⟩,
    ⟨(some 18), .bin .add (.t 17) (.k (.int .i64 1)), none⟩,
    ⟨(some 19), .mv (.t 3), none⟩,
    ⟨(some 20), .call f_law00_from [(.t 16), (.t 18), (.t 19)], none⟩,
    ⟨(some 21), .call f_law00_with [(.t 11), (.t 15), (.t 20)], none⟩,
    ⟨(some 22), .ld (.t 4) (some 131), none⟩,
    ⟨(some 23), .mv (.t 1), none⟩,
    ⟨(some 24), .mv (.t 2), none⟩,
    ⟨(some 25), .bin .add (.t 24) (.k (.int .i64 2)), none⟩,
    ⟨(some 26), .mv (.t 3), none⟩,
    ⟨(some 27), .call f_law00_from [(.t 23), (.t 25), (.t 26)], none⟩,
    ⟨(some 28), .mv (.t 1), none⟩,
    ⟨(some 29), .mv (.t 2), none⟩,
    ⟨(some 30), .bin .add (.t 29) (.k (.int .i64 3)), none⟩,
    ⟨(some 31), .mv (.t 3), none⟩,
    ⟨(some 32), .call f_law00_from [(.t 28), (.t 30), (.t 31)], none⟩,
    ⟨(some 33), .call f_law00_with [(.t 22), (.t 27), (.t 32)], none⟩,
    ⟨(some 34), .build z11_58867 [(2, 1, (.t 21)), (3, 1, (.t 33))], none⟩,
    ⟨(some 9), .alloc z11_58867, none⟩,
    ⟨none, .st (.t 9) (.t 34) 11, none⟩])
  (.join (.seq (.reg [
     ⟨(some 35), .mv (.t 1), none⟩,
     ⟨(some 36), .mv (.t 2), none⟩,
     ⟨(some 37), .bin .add (.t 36) (.k (.int .i64 4)), none⟩,
     ⟨(some 38), .mv (.t 3), none⟩,
     ⟨(some 39), .bin .add (.t 38) (.k (.int .i64 1)), none⟩,
     ⟨(some 40), .call f_law00_from [(.t 35), (.t 37), (.t 39)], none⟩,
     ⟨(some 10), .mv (.t 40), none⟩])
   (.seq (.reg [
     ⟨(some 41), .mv (.t 10), none⟩,
     ⟨(some 42), .mv (.t 3), none⟩,
     ⟨(some 43), .bin .lss (.t 41) (.t 42), none⟩])
   (.cond (.t 43) (.seq (.reg [
      ⟨(some 44), .ld (.t 4) (some 131), none⟩,
      ⟨(some 45), .mv (.t 10), none⟩,
      ⟨(some 46), .mv (.t 1), none⟩,
      ⟨(some 47), .mv (.t 2), none⟩,
      ⟨(some 48), .bin .add (.t 47) (.k (.int .i64 5)), none⟩,
      ⟨(some 49), .mv (.t 3), none⟩,
      ⟨(some 50), .call f_law00_from [(.t 46), (.t 48), (.t 49)], none⟩,
      ⟨(some 51), .call f_law00_with [(.t 44), (.t 45), (.t 50)], none⟩,
      ⟨(some 52), .fa (.t 9) 1, none⟩,
      ⟨none, .st (.t 52) (.t 51) 1, none⟩])
    (.reg [
      ⟨(some 53), .mv (.t 1), none⟩,
      ⟨(some 54), .mv (.t 2), none⟩,
      ⟨(some 55), .bin .add (.t 54) (.k (.int .i64 6)), none⟩,
      ⟨(some 56), .call f_law00_from [(.t 53), (.t 55), (.k (.int .i64 10))], none⟩,
      ⟨(some 57), .bin .add (.k (.int .i64 1)) (.t 56), none⟩,
      ⟨(some 58), .fa (.t 9) 7, none⟩,
      ⟨none, .st (.t 58) (.t 57) 1, none⟩]))
    (.skip))))
  (.seq (.reg [
    ⟨(some 59), .mv (.t 1), none⟩,
    ⟨(some 60), .mv (.t 2), none⟩,
    ⟨(some 61), .bin .add (.t 60) (.k (.int .i64 7)), none⟩,
    ⟨(some 62), .call f_law00_from [(.t 59), (.t 61), (.k (.int .i64 256))], none⟩,
    ⟨(some 63), .mv (.t 3), none⟩,
    ⟨(some 64), .cvII .u64 (.t 63), none⟩,
    ⟨(some 65), .bin .shl (.k (.int .i64 1)) (.t 64), none⟩,
    ⟨(some 66), .bin .sub (.t 65) (.k (.int .i64 1)), none⟩,
    ⟨(some 67), .bin .and (.t 62) (.t 66), none⟩,
    ⟨(some 68), .fa (.t 9) 2, none⟩,
    ⟨(some 69), .ld (.t 68) none, none⟩,
    ⟨(some 70), .bin .andNot (.t 67) (.t 69), none⟩,
    ⟨(some 71), .fa (.t 9) 0, none⟩,
    ⟨none, .st (.t 71) (.t 70) 1, none⟩])
  (.seq (.reg [
    ⟨(some 72), .mv (.t 1), none⟩,
    ⟨(some 73), .mv (.t 2), none⟩,
    ⟨(some 74), .bin .add (.t 73) (.k (.int .i64 8)), none⟩,
    ⟨(some 75), .call f_law00_from [(.t 72), (.t 74), (.k (.int .i64 4))], none⟩,
    ⟨(some 76), .fa (.t 9) 4, none⟩,
    ⟨none, .st (.t 76) (.t 75) 1, none⟩])
  (.seq (.reg [
    ⟨(some 77), .mv (.t 1), none⟩,
    ⟨(some 78), .mv (.t 2), none⟩,
    ⟨(some 79), .bin .add (.t 78) (.k (.int .i64 9)), none⟩,
    ⟨(some 80), .call f_law00_from [(.t 77), (.t 79), (.k (.int .i64 6))], none⟩,
    ⟨(some 81), .bin .add (.k (.int .i64 1)) (.t 80), none⟩,
    ⟨(some 82), .fa (.t 9) 5, none⟩,
    ⟨none, .st (.t 82) (.t 81) 1, none⟩])
  (.seq (.reg [
    ⟨(some 83), .mv (.t 1), none⟩,
    ⟨(some 84), .mv (.t 2), none⟩,
    ⟨(some 85), .bin .add (.t 84) (.k (.int .i64 10)), none⟩,
    ⟨(some 86), .call f_law00_from [(.t 83), (.t 85), (.k (.int .i64 6))], none⟩,
    ⟨(some 87), .fa (.t 9) 6, none⟩,
    ⟨none, .st (.t 87) (.t 86) 1, none⟩])
  (.seq (.reg [
    ⟨(some 88), .mv (.t 1), none⟩,
    ⟨(some 89), .mv (.t 2), none⟩,
    ⟨(some 90), .bin .add (.t 89) (.k (.int .i64 11)), none⟩,
    ⟨(some 91), .call f_law00_from [(.t 88), (.t 90), (.k (.int .i64 15))], none⟩,
    ⟨(some 92), .bin .add (.k (.int .i64 1)) (.t 91), none⟩,
    ⟨(some 93), .fa (.t 9) 8, none⟩,
    ⟨none, .st (.t 93) (.t 92) 1, none⟩])
  (.join (.seq (.reg [
     ⟨(some 94), .mv (.t 1), none⟩,
     ⟨(some 95), .mv (.t 2), none⟩,
     ⟨(some 96), .bin .add (.t 95) (.k (.int .i64 12)), none⟩,
     ⟨(some 97), .call f_law00_from [(.t 94), (.t 96), (.k (.int .i64 3))], none⟩,
     ⟨(some 98), .bin .eql (.t 97) (.k (.int .i64 1)), none⟩])
   (.cond (.t 98) (.reg [
      ⟨(some 99), .fa (.t 9) 8, none⟩,
      ⟨(some 100), .ld (.t 99) none, none⟩,
      ⟨(some 101), .mv (.t 1), none⟩,
      ⟨(some 102), .mv (.t 2), none⟩,
      ⟨(some 103), .bin .add (.t 102) (.k (.int .i64 13)), none⟩,
      ⟨(some 104), .call f_law00_from [(.t 101), (.t 103), (.k (.int .i64 30))], none⟩,
      ⟨(some 105), .bin .add (.t 100) (.t 104), none⟩,
      ⟨(some 106), .fa (.t 9) 9, none⟩,
      ⟨none, .st (.t 106) (.t 105) 1, none⟩])
    (.skip)))
  (.seq (.reg [
    ⟨(some 107), .fa (.t 9) 4, none⟩,
    ⟨(some 108), .ld (.t 107) none, none⟩,
    ⟨(some 109), .bin .add (.t 108) (.k (.int .i64 1)), none⟩,
    ⟨(some 110), .build [(.int .i64 0), (.int .i64 0), (.int .i64 0)] [(0, 1, (.k (.int .i64 10000))), (1, 1, (.k (.int .i64 400))), (2, 1, (.k (.int .i64 20)))], none⟩,
    ⟨(some 111), .mv (.t 1), none⟩,
    ⟨(some 112), .mv (.t 2), none⟩,
    ⟨(some 113), .bin .add (.t 112) (.k (.int .i64 14)), none⟩,
    ⟨(some 114), .call f_law00_from [(.t 111), (.t 113), (.k (.int .i64 3))], none⟩,
    ⟨(some 115), .ixA (.t 110) (.t 114) 3 1 none, none⟩,
    ⟨(some 116), .bin .add (.t 109) (.t 115), none⟩,
    ⟨(some 117), .fa (.t 9) 10, none⟩,
    ⟨none, .st (.t 117) (.t 116) 1, none⟩])
  (.seq (.reg [
    ⟨(some 118), .ld (.t 9) (some 11), none⟩,
    ⟨none, .st (.t 8) (.t 118) 11, none⟩])
  (.ret)))))))))))⟩

/-- crossbuck/crossbuckref08.Wait -/
def cc_ref08_Wait (f_ref08_Free e_int f_ref08_sum f_ref08_Over f_ref01_Mul : Nat) : CFn := ⟨32, [.tmp 4],
  .seq (.reg [
    ⟨(some 2), .box (.t 0), none⟩,
    ⟨(some 4), .mv (.k (.int .i64 0)), none⟩])
  (.seq (.reg [
    ⟨(some 6), .ld (.t 2) (some 131), none⟩,
    ⟨(some 7), .mv (.t 1), none⟩,
    ⟨(some 8), .call f_ref08_Free [(.t 6), (.t 7)], none⟩,
    ⟨(some 5), .mv (.t 8), none⟩])
  (.join (.seq (.reg [
     ⟨(some 9), .mv (.t 5), none⟩,
     ⟨(some 10), .bin .eql (.t 9) (.k (.int .i64 0)), none⟩,
     ⟨(some 11), .mv (.t 10), none⟩,
     ⟨(some 12), .fa (.t 2) 114, (some (11, false))⟩,
     ⟨(some 13), .ld (.t 12) none, (some (11, false))⟩,
     ⟨(some 14), .lenS (.t 13), (some (11, false))⟩,
     ⟨(some 15), .bin .eql (.t 14) (.k (.int .i64 0)), (some (11, false))⟩,
     ⟨(some 16), .pick (.t 11) (.k (.bool true)) (.t 15), none⟩])
   (.cond (.t 16) (.seq (.reg [
      ⟨(some 17), .mv (.t 5), none⟩,
      ⟨(some 4), .mv (.t 17), none⟩])
    (.ret))
    (.skip)))
  (.seq (.reg [
    ⟨(some 18), .fa (.t 2) 130, none⟩,
    ⟨(some 19), .ld (.t 18) none, none⟩,
    ⟨(some 20), .bsl e_int 1 [(.t 19), (.k (.int .i64 1))], none⟩,
    ⟨(some 21), .call f_ref08_sum [(.t 20)], none⟩,
    ⟨(some 22), .ld (.t 2) (some 131), none⟩,
    ⟨(some 23), .call f_ref08_Over [(.t 22)], none⟩,
    ⟨(some 24), .mv (.t 5), none⟩,
    ⟨(some 25), .bsl e_int 1 [(.t 23), (.t 24), (.k (.int .i64 2))], none⟩,
    ⟨(some 26), .call f_ref08_sum [(.t 25)], none⟩,
    ⟨(some 27), .call f_ref01_Mul [(.t 21), (.t 26)], none⟩,
    ⟨(some 28), .fa (.t 2) 130, none⟩,
    ⟨(some 29), .ld (.t 28) none, none⟩,
    ⟨(some 30), .bsl e_int 1 [(.t 27), (.t 29)], none⟩,
    ⟨(some 31), .call f_ref08_sum [(.t 30)], none⟩,
    ⟨(some 4), .mv (.t 31), none⟩])
  (.ret))))⟩

/-- crossbuck/calls.Step$1 -/
def cc_calls_Step_1 (f_set_Has : Nat) : CFn := ⟨39, [.tmp 7],
  .seq (.reg [
    ⟨(some 6), .box (.t 1), none⟩,
    ⟨(some 7), .mv (.k (.bool false)), none⟩])
  (.seq (.reg [
    ⟨(some 9), .fa (.t 6) 10, none⟩,
    ⟨(some 10), .ld (.t 9) none, none⟩,
    ⟨(some 11), .bin .eql (.t 10) (.k (.int .i64 1)), none⟩,
    ⟨(some 12), .mv (.t 11), none⟩,
    ⟨(some 13), .fa (.t 6) 10, (some (12, false))⟩,
    ⟨(some 14), .ld (.t 13) none, (some (12, false))⟩,
    ⟨(some 15), .bin .eql (.t 14) (.k (.int .i64 2)), (some (12, false))⟩,
    ⟨(some 16), .pick (.t 12) (.k (.bool true)) (.t 15), none⟩,
    ⟨(some 8), .mv (.t 16), none⟩])
  (.seq (.reg [
    ⟨(some 17), .ld (.t 2) none, none⟩,
    ⟨(some 18), .mv (.t 0), none⟩,
    ⟨(some 19), .call f_set_Has [(.t 17), (.t 18)], none⟩,
    ⟨(some 20), .un .not (.t 19), none⟩,
    ⟨(some 21), .mv (.t 20), none⟩,
    ⟨(some 22), .fa (.t 3) 0, (some (21, true))⟩,
    ⟨(some 23), .ld (.t 22) none, (some (21, true))⟩,
    ⟨(some 24), .mv (.t 0), (some (21, true))⟩,
    ⟨(some 25), .call f_set_Has [(.t 23), (.t 24)], (some (21, true))⟩,
    ⟨(some 26), .mv (.t 25), (some (21, true))⟩,
    ⟨(some 27), .fa (.t 6) 11, (some (26, false))⟩,
    ⟨(some 28), .ld (.t 27) none, (some (26, false))⟩,
    ⟨(some 29), .mv (.t 28), (some (26, false))⟩,
    ⟨(some 30), .ld (.t 4) none, (some (29, true))⟩,
    ⟨(some 31), .mv (.t 0), (some (29, true))⟩,
    ⟨(some 32), .call f_set_Has [(.t 30), (.t 31)], (some (29, true))⟩,
    ⟨(some 33), .pick (.t 29) (.t 32) (.k (.bool false)), (some (26, false))⟩,
    ⟨(some 34), .pick (.t 26) (.k (.bool true)) (.t 33), (some (21, true))⟩,
    ⟨(some 35), .mv (.t 34), (some (21, true))⟩,
    ⟨(some 36), .mv (.t 8), (some (35, false))⟩,
    ⟨(some 37), .pick (.t 35) (.k (.bool true)) (.t 36), (some (21, true))⟩,
    ⟨(some 38), .pick (.t 21) (.t 37) (.k (.bool false)), none⟩,
    ⟨(some 7), .mv (.t 38), none⟩])
  (.ret)))⟩

/-- crossbuck/set.Has -/
def cc_set_Has (f_set_bit : Nat) : CFn := ⟨10, [.tmp 4],
  .seq (.reg [
    ⟨(some 4), .mv (.k (.bool false)), none⟩])
  (.seq (.reg [
    ⟨(some 5), .mv (.t 0), none⟩,
    ⟨(some 6), .mv (.t 1), none⟩,
    ⟨(some 7), .call f_set_bit [(.t 6)], none⟩,
    ⟨(some 8), .bin .and (.t 5) (.t 7), none⟩,
    ⟨(some 9), .bin .neq (.t 8) (.k (.int .i64 0)), none⟩,
    ⟨(some 4), .mv (.t 9), none⟩])
  (.ret))⟩

/-- crossbuck/calls.Step$2 -/
def cc_calls_Step_2 (f_set_Has : Nat) : CFn := ⟨33, [.tmp 7],
  .seq (.reg [
    ⟨(some 6), .box (.t 1), none⟩,
    ⟨(some 7), .mv (.k (.bool false)), none⟩])
  (.seq (.reg [
    ⟨(some 8), .fa (.t 6) 8, none⟩,
    ⟨(some 9), .ld (.t 8) none, none⟩,
    ⟨(some 10), .bin .gtr (.t 9) (.k (.int .i64 0)), none⟩,
    ⟨(some 11), .mv (.t 10), none⟩,
    ⟨(some 12), .ld (.t 2) none, (some (11, true))⟩,
    ⟨(some 13), .mv (.t 0), (some (11, true))⟩,
    ⟨(some 14), .call f_set_Has [(.t 12), (.t 13)], (some (11, true))⟩,
    ⟨(some 15), .un .not (.t 14), (some (11, true))⟩,
    ⟨(some 16), .pick (.t 11) (.t 15) (.k (.bool false)), none⟩,
    ⟨(some 17), .mv (.t 16), none⟩,
    ⟨(some 18), .fa (.t 3) 1, (some (17, true))⟩,
    ⟨(some 19), .ld (.t 18) none, (some (17, true))⟩,
    ⟨(some 20), .mv (.t 0), (some (17, true))⟩,
    ⟨(some 21), .call f_set_Has [(.t 19), (.t 20)], (some (17, true))⟩,
    ⟨(some 22), .mv (.t 21), (some (17, true))⟩,
    ⟨(some 23), .ld (.t 4) none, (some (22, false))⟩,
    ⟨(some 24), .mv (.t 0), (some (22, false))⟩,
    ⟨(some 25), .call f_set_Has [(.t 23), (.t 24)], (some (22, false))⟩,
    ⟨(some 26), .pick (.t 22) (.k (.bool true)) (.t 25), (some (17, true))⟩,
    ⟨(some 27), .mv (.t 26), (some (17, true))⟩,
    ⟨(some 28), .fa (.t 6) 10, (some (27, false))⟩,
    ⟨(some 29), .ld (.t 28) none, (some (27, false))⟩,
    ⟨(some 30), .bin .eql (.t 29) (.k (.int .i64 3)), (some (27, false))⟩,
    ⟨(some 31), .pick (.t 27) (.k (.bool true)) (.t 30), (some (17, true))⟩,
    ⟨(some 32), .pick (.t 17) (.t 31) (.k (.bool false)), none⟩,
    ⟨(some 7), .mv (.t 32), none⟩])
  (.ret))⟩

/-- crossbuck/calls.those -/
def cc_calls_those (f_set_With : Nat) : CFn := ⟨27, [.tmp 4],
  .seq (.reg [
    ⟨(some 2), .box (.t 0), none⟩,
    ⟨(some 4), .mv (.k (.int .i64 0)), none⟩])
  (.seq (.reg [
    ⟨(some 5), .mv (.k (.int .i64 0)), none⟩])
  (.join (.seq (.reg [
     ⟨(some 8), .fa (.t 2) 0, none⟩,
     ⟨(some 9), .ld (.t 8) (some 104), none⟩,
     ⟨(some 10), .mv (.k (.int .i64 0)), none⟩])
   (.block 0 (.loop (.seq (.reg [
       ⟨(some 11), .bin .lss (.t 10) (.k (.int .i64 8)), none⟩])
     (.join (.cond (.t 11) (.skip)
       (.exit 0))
     (.join (.block 1 (.seq (.reg [
         ⟨(some 12), .mv (.t 10), none⟩,
         ⟨(some 13), .ixA (.t 9) (.t 10) 8 13 (some 13), none⟩,
         ⟨(some 7), .alloc z13_14216, none⟩,
         ⟨(some 6), .mv (.t 12), none⟩,
         ⟨none, .st (.t 7) (.t 13) 13, none⟩])
       (.seq (.reg [
         ⟨(some 14), .fa (.t 7) 0, none⟩,
         ⟨(some 15), .ld (.t 14) none, none⟩,
         ⟨(some 16), .mv (.t 15), none⟩,
         ⟨(some 17), .mv (.t 1), (some (16, true))⟩,
         ⟨(some 18), .mv (.t 6), (some (16, true))⟩,
         ⟨(some 19), .ld (.t 7) (some 13), (some (16, true))⟩,
         ⟨(some 20), .callv (.t 17) [(.t 18), (.t 19)], (some (16, true))⟩,
         ⟨(some 21), .pick (.t 16) (.t 20) (.k (.bool false)), none⟩])
       (.cond (.t 21) (.reg [
          ⟨(some 22), .mv (.t 5), none⟩,
          ⟨(some 23), .mv (.t 6), none⟩,
          ⟨(some 24), .call f_set_With [(.t 22), (.t 23)], none⟩,
          ⟨(some 5), .mv (.t 24), none⟩])
        (.skip)))))
     (.reg [
       ⟨(some 25), .bin .add (.t 10) (.k (.int .i64 1)), none⟩,
       ⟨(some 10), .mv (.t 25), none⟩])))))))
  (.seq (.reg [
    ⟨(some 26), .mv (.t 5), none⟩,
    ⟨(some 4), .mv (.t 26), none⟩])
  (.ret))))⟩

/-- crossbuck/calls.Want$1 -/
def cc_calls_Want_1 (f_set_Has : Nat) : CFn := ⟨27, [.tmp 6],
  .seq (.reg [
    ⟨(some 5), .box (.t 1), none⟩,
    ⟨(some 6), .mv (.k (.bool false)), none⟩])
  (.seq (.reg [
    ⟨(some 7), .fa (.t 2) 0, none⟩,
    ⟨(some 8), .ld (.t 7) none, none⟩,
    ⟨(some 9), .mv (.t 0), none⟩,
    ⟨(some 10), .call f_set_Has [(.t 8), (.t 9)], none⟩,
    ⟨(some 11), .mv (.t 10), none⟩,
    ⟨(some 12), .ld (.t 3) none, (some (11, false))⟩,
    ⟨(some 13), .mv (.t 0), (some (11, false))⟩,
    ⟨(some 14), .call f_set_Has [(.t 12), (.t 13)], (some (11, false))⟩,
    ⟨(some 15), .pick (.t 11) (.k (.bool true)) (.t 14), none⟩,
    ⟨(some 16), .mv (.t 15), none⟩,
    ⟨(some 17), .fa (.t 2) 1, (some (16, false))⟩,
    ⟨(some 18), .ld (.t 17) none, (some (16, false))⟩,
    ⟨(some 19), .mv (.t 0), (some (16, false))⟩,
    ⟨(some 20), .call f_set_Has [(.t 18), (.t 19)], (some (16, false))⟩,
    ⟨(some 21), .mv (.t 20), (some (16, false))⟩,
    ⟨(some 22), .fa (.t 5) 8, (some (21, true))⟩,
    ⟨(some 23), .ld (.t 22) none, (some (21, true))⟩,
    ⟨(some 24), .bin .gtr (.t 23) (.k (.int .i64 0)), (some (21, true))⟩,
    ⟨(some 25), .pick (.t 21) (.t 24) (.k (.bool false)), (some (16, false))⟩,
    ⟨(some 26), .pick (.t 16) (.k (.bool true)) (.t 25), none⟩,
    ⟨(some 6), .mv (.t 26), none⟩])
  (.ret))⟩

/-- crossbuck/calls.Held$1 -/
def cc_calls_Held_1 (f_set_Has : Nat) : CFn := ⟨14, [.tmp 5],
  .seq (.reg [
    ⟨(some 4), .box (.t 1), none⟩,
    ⟨(some 5), .mv (.k (.bool false)), none⟩])
  (.seq (.reg [
    ⟨(some 6), .ld (.t 2) none, none⟩,
    ⟨(some 7), .mv (.t 0), none⟩,
    ⟨(some 8), .call f_set_Has [(.t 6), (.t 7)], none⟩,
    ⟨(some 9), .mv (.t 8), none⟩,
    ⟨(some 10), .fa (.t 4) 10, (some (9, false))⟩,
    ⟨(some 11), .ld (.t 10) none, (some (9, false))⟩,
    ⟨(some 12), .bin .eql (.t 11) (.k (.int .i64 2)), (some (9, false))⟩,
    ⟨(some 13), .pick (.t 9) (.k (.bool true)) (.t 12), none⟩,
    ⟨(some 5), .mv (.t 13), none⟩])
  (.ret))⟩

/-- crossbuck/crossbuckref08.Where -/
def cc_ref08_Where (f_ref08_Spots : Nat) : CFn := ⟨28, [.cell 4 (some 4), .tmp 5],
  .seq (.reg [
    ⟨(some 2), .box (.t 0), none⟩,
    ⟨(some 4), .alloc [(.int .i64 0), (.int .i64 0), (.int .i64 0), (.int .i64 0)], none⟩,
    ⟨(some 5), .mv (.k (.bool false)), none⟩])
  (.seq (.reg [
    ⟨(some 8), .ld (.t 2) (some 131), none⟩,
    ⟨(some 9), .call f_ref08_Spots [(.t 8)], none⟩,
    ⟨(some 6), .mv (.t 9), none⟩])
  (.join (.seq (.reg [
     ⟨(some 7), .mv (.k (.int .i64 0)), none⟩])
   (.block 0 (.loop (.join (.seq (.reg [
        ⟨(some 10), .mv (.t 7), none⟩,
        ⟨(some 11), .mv (.t 6), none⟩,
        ⟨(some 12), .lenS (.t 11), none⟩,
        ⟨(some 13), .bin .lss (.t 10) (.t 12), none⟩])
      (.cond (.t 13) (.skip)
       (.exit 0)))
     (.join (.block 1 (.seq (.reg [
         ⟨(some 16), .mv (.t 6), none⟩,
         ⟨(some 17), .mv (.t 7), none⟩,
         ⟨(some 18), .iaS (.t 16) (.t 17) 4, none⟩,
         ⟨(some 19), .fa (.t 18) 3, none⟩,
         ⟨(some 20), .ld (.t 19) none, none⟩,
         ⟨(some 21), .mv (.t 1), none⟩,
         ⟨(some 22), .bin .eql (.t 20) (.t 21), none⟩])
       (.cond (.t 22) (.seq (.reg [
          ⟨(some 23), .mv (.t 6), none⟩,
          ⟨(some 24), .mv (.t 7), none⟩,
          ⟨(some 25), .iaS (.t 23) (.t 24) 4, none⟩,
          ⟨(some 26), .ld (.t 25) (some 4), none⟩,
          ⟨none, .st (.t 4) (.t 26) 4, none⟩,
          ⟨(some 5), .mv (.k (.bool true)), none⟩])
        (.ret))
        (.skip))))
     (.reg [
       ⟨(some 14), .mv (.t 7), none⟩,
       ⟨(some 15), .bin .add (.t 14) (.k (.int .i64 1)), none⟩,
       ⟨(some 7), .mv (.t 15), none⟩]))))))
  (.seq (.reg [
    ⟨(some 27), .build [(.int .i64 0), (.int .i64 0), (.int .i64 0), (.int .i64 0)] [], none⟩,
    ⟨none, .st (.t 4) (.t 27) 4, none⟩,
    ⟨(some 5), .mv (.k (.bool false)), none⟩])
  (.ret))))⟩

/-- crossbuck/crossbucklaw00.At -/
def cc_law00_At : CFn := ⟨17, [.tmp 4],
  .seq (.reg [
    ⟨(some 4), .mv (.k (.int .i64 0)), none⟩])
  (.join (.seq (.reg [
     ⟨(some 5), .mv (.t 1), none⟩,
     ⟨(some 6), .bin .lss (.t 5) (.k (.int .i64 0)), none⟩,
     ⟨(some 7), .mv (.t 6), none⟩,
     ⟨(some 8), .mv (.t 1), (some (7, false))⟩,
     ⟨(some 9), .mv (.t 0), (some (7, false))⟩,
     ⟨(some 10), .lenS (.t 9), (some (7, false))⟩,
     ⟨(some 11), .bin .geq (.t 8) (.t 10), (some (7, false))⟩,
     ⟨(some 12), .pick (.t 7) (.k (.bool true)) (.t 11), none⟩])
   (.cond (.t 12) (.seq (.reg [
      ⟨(some 4), .mv (.k (.int .i64 0)), none⟩])
    (.ret))
    (.skip)))
  (.seq (.reg [
    ⟨(some 13), .mv (.t 0), none⟩,
    ⟨(some 14), .mv (.t 1), none⟩,
    ⟨(some 15), .iaS (.t 13) (.t 14) 1, none⟩,
    ⟨(some 16), .ld (.t 15) none, none⟩,
    ⟨(some 4), .mv (.t 16), none⟩])
  (.ret)))⟩

/-- crossbuck/crossbuckref01.List -/
def cc_ref01_List (f_ref01_Has e_int : Nat) : CFn := ⟨17, [.tmp 2],
  .seq (.reg [
    ⟨(some 2), .mv (.k .nils), none⟩])
  (.seq (.reg [
    ⟨(some 3), .mv (.k .nils), none⟩])
  (.join (.seq (.reg [
     ⟨(some 4), .mv (.k (.int .i64 0)), none⟩])
   (.block 0 (.loop (.join (.seq (.reg [
        ⟨(some 5), .mv (.t 4), none⟩,
        ⟨(some 6), .bin .lss (.t 5) (.k (.int .i64 8)), none⟩])
      (.cond (.t 6) (.skip)
       (.exit 0)))
     (.join (.block 1 (.seq (.reg [
         ⟨(some 9), .mv (.t 0), none⟩,
         ⟨(some 10), .mv (.t 4), none⟩,
         ⟨(some 11), .call f_ref01_Has [(.t 9), (.t 10)], none⟩])
       (.cond (.t 11) (.reg [
          ⟨(some 12), .mv (.t 3), none⟩,
          ⟨(some 13), .mv (.t 4), none⟩,
          ⟨(some 14), .bsl e_int 1 [(.t 13)], none⟩,
          ⟨(some 15), .app e_int 1 8 (.t 12) (.t 14), none⟩,
          ⟨(some 3), .mv (.t 15), none⟩])
        (.skip))))
     (.reg [
       ⟨(some 7), .mv (.t 4), none⟩,
       ⟨(some 8), .bin .add (.t 7) (.k (.int .i64 1)), none⟩,
       ⟨(some 4), .mv (.t 8), none⟩]))))))
  (.seq (.reg [
    ⟨(some 16), .mv (.t 3), none⟩,
    ⟨(some 2), .mv (.t 16), none⟩])
  (.ret))))⟩

/-- crossbuck/crossbucklaw00.with -/
def cc_law00_with (e_int f_ref01_Of f_ref08_Beside f_ref01_With : Nat) : CFn := ⟨19, [.tmp 6],
  .seq (.reg [
    ⟨(some 3), .box (.t 0), none⟩,
    ⟨(some 6), .mv (.k (.int .i64 0)), none⟩])
  (.seq (.reg [
    ⟨(some 8), .mv (.t 1), none⟩,
    ⟨(some 9), .bsl e_int 1 [(.t 8)], none⟩,
    ⟨(some 10), .call f_ref01_Of [(.t 9)], none⟩,
    ⟨(some 7), .mv (.t 10), none⟩])
  (.join (.seq (.reg [
     ⟨(some 11), .ld (.t 3) (some 131), none⟩,
     ⟨(some 12), .mv (.t 1), none⟩,
     ⟨(some 13), .mv (.t 2), none⟩,
     ⟨(some 14), .call f_ref08_Beside [(.t 11), (.t 12), (.t 13)], none⟩])
   (.cond (.t 14) (.reg [
      ⟨(some 15), .mv (.t 7), none⟩,
      ⟨(some 16), .mv (.t 2), none⟩,
      ⟨(some 17), .call f_ref01_With [(.t 15), (.t 16)], none⟩,
      ⟨(some 7), .mv (.t 17), none⟩])
    (.skip)))
  (.seq (.reg [
    ⟨(some 18), .mv (.t 7), none⟩,
    ⟨(some 6), .mv (.t 18), none⟩])
  (.ret))))⟩

/-- crossbuck/crossbuckref08.Free -/
def cc_ref08_Free (f_ref08_Where f_ref08_On f_ref01_Has f_ref08_Pass e_int f_ref08_sum : Nat) : CFn := ⟨44, [.tmp 4],
  .seq (.reg [
    ⟨(some 2), .box (.t 0), none⟩,
    ⟨(some 4), .mv (.k (.int .i64 0)), none⟩])
  (.seq (.reg [
    ⟨(some 10), .ld (.t 2) (some 131), none⟩,
    ⟨(some 11), .mv (.t 1), none⟩,
    ⟨(some 12), .call f_ref08_Where [(.t 10), (.t 11)], none⟩,
    ⟨(some 9), .mv (.t 12), none⟩,
    ⟨(some 13), .ext (.t 9) 0, none⟩,
    ⟨(some 14), .ext (.t 9) 1, none⟩,
    ⟨(some 5), .alloc [(.int .i64 0), (.int .i64 0), (.int .i64 0), (.int .i64 0)], none⟩,
    ⟨none, .st (.t 5) (.t 13) 4, none⟩,
    ⟨(some 6), .mv (.t 14), none⟩])
  (.join (.seq (.reg [
     ⟨(some 15), .mv (.t 6), none⟩,
     ⟨(some 16), .un .not (.t 15), none⟩,
     ⟨(some 17), .mv (.t 16), none⟩,
     ⟨(some 18), .ld (.t 2) (some 131), (some (17, false))⟩,
     ⟨(some 19), .call f_ref08_On [(.t 18)], (some (17, false))⟩,
     ⟨(some 20), .mv (.t 1), (some (17, false))⟩,
     ⟨(some 21), .call f_ref01_Has [(.t 19), (.t 20)], (some (17, false))⟩,
     ⟨(some 22), .un .not (.t 21), (some (17, false))⟩,
     ⟨(some 23), .pick (.t 17) (.k (.bool true)) (.t 22), none⟩])
   (.cond (.t 23) (.seq (.reg [
      ⟨(some 4), .mv (.k (.int .i64 0)), none⟩])
    (.ret))
    (.skip)))
  (.seq (.reg [
    ⟨(some 24), .ld (.t 2) (some 131), none⟩,
    ⟨(some 25), .fa (.t 5) 0, none⟩,
    ⟨(some 26), .ld (.t 25) none, none⟩,
    ⟨(some 27), .call f_ref08_Pass [(.t 24), (.t 26)], none⟩,
    ⟨(some 28), .bsl e_int 1 [(.t 27)], none⟩,
    ⟨(some 7), .mv (.t 28), none⟩])
  (.join (.seq (.reg [
     ⟨(some 8), .mv (.k (.int .i64 0)), none⟩])
   (.block 0 (.loop (.join (.seq (.reg [
        ⟨(some 29), .mv (.t 8), none⟩,
        ⟨(some 30), .fa (.t 2) 104, none⟩,
        ⟨(some 31), .ld (.t 30) none, none⟩,
        ⟨(some 32), .lenS (.t 31), none⟩,
        ⟨(some 33), .bin .lss (.t 29) (.t 32), none⟩])
      (.cond (.t 33) (.skip)
       (.exit 0)))
     (.join (.block 1 (.reg [
         ⟨(some 36), .mv (.t 7), none⟩,
         ⟨(some 37), .ld (.t 2) (some 131), none⟩,
         ⟨(some 38), .mv (.t 8), none⟩,
         ⟨(some 39), .call f_ref08_Pass [(.t 37), (.t 38)], none⟩,
         ⟨(some 40), .bsl e_int 1 [(.t 39)], none⟩,
         ⟨(some 41), .app e_int 1 8 (.t 36) (.t 40), none⟩,
         ⟨(some 7), .mv (.t 41), none⟩]))
     (.reg [
       ⟨(some 34), .mv (.t 8), none⟩,
       ⟨(some 35), .bin .add (.t 34) (.k (.int .i64 1)), none⟩,
       ⟨(some 8), .mv (.t 35), none⟩]))))))
  (.seq (.reg [
    ⟨(some 42), .mv (.t 7), none⟩,
    ⟨(some 43), .call f_ref08_sum [(.t 42)], none⟩,
    ⟨(some 4), .mv (.t 43), none⟩])
  (.ret))))))⟩

/-- crossbuck/crossbuckref08.sum -/
def cc_ref08_sum (f_ref01_Sum : Nat) : CFn := ⟨5, [.tmp 2],
  .seq (.reg [
    ⟨(some 2), .mv (.k (.int .i64 0)), none⟩])
  (.seq (.reg [
    ⟨(some 3), .mv (.t 0), none⟩,
    ⟨(some 4), .call f_ref01_Sum [(.t 3)], none⟩,
    ⟨(some 2), .mv (.t 4), none⟩])
  (.ret))⟩

/-- crossbuck/crossbuckref01.Mul -/
def cc_ref01_Mul (f_ref01_Cap : Nat) : CFn := ⟨11, [.tmp 4],
  .seq (.reg [
    ⟨(some 4), .mv (.k (.int .i64 0)), none⟩])
  (.seq (.reg [
    ⟨(some 5), .mv (.t 0), none⟩,
    ⟨(some 6), .call f_ref01_Cap [(.t 5)], none⟩,
    ⟨(some 7), .mv (.t 1), none⟩,
    ⟨(some 8), .call f_ref01_Cap [(.t 7)], none⟩,
    ⟨(some 9), .bin .mul (.t 6) (.t 8), none⟩,
    ⟨(some 10), .call f_ref01_Cap [(.t 9)], none⟩,
    ⟨(some 4), .mv (.t 10), none⟩])
  (.ret))⟩

/-- crossbuck/crossbuckref08.Over -/
def cc_ref08_Over (f_ref08_Entry e_int f_ref08_sum f_ref08_On f_ref01_List f_ref01_Cap f_ref08_most f_ref08_clear : Nat) : CFn := ⟨73, [.tmp 2],
  .seq (.reg [
    ⟨(some 1), .box (.t 0), none⟩,
    ⟨(some 2), .mv (.k (.int .i64 0)), none⟩])
  (.join (.seq (.reg [
     ⟨(some 8), .fa (.t 1) 114, none⟩,
     ⟨(some 9), .ld (.t 8) none, none⟩,
     ⟨(some 10), .lenS (.t 9), none⟩,
     ⟨(some 11), .bin .eql (.t 10) (.k (.int .i64 0)), none⟩])
   (.cond (.t 11) (.seq (.reg [
      ⟨(some 2), .mv (.k (.int .i64 0)), none⟩])
    (.ret))
    (.skip)))
  (.seq (.reg [
    ⟨(some 3), .mv (.k .nils), none⟩,
    ⟨(some 4), .mv (.k .nils), none⟩])
  (.join (.seq (.reg [
     ⟨(some 5), .mv (.k (.int .i64 0)), none⟩])
   (.block 0 (.loop (.join (.seq (.reg [
        ⟨(some 12), .mv (.t 5), none⟩,
        ⟨(some 13), .fa (.t 1) 114, none⟩,
        ⟨(some 14), .ld (.t 13) none, none⟩,
        ⟨(some 15), .lenS (.t 14), none⟩,
        ⟨(some 16), .bin .lss (.t 12) (.t 15), none⟩])
      (.cond (.t 16) (.skip)
       (.exit 0)))
     (.join (.block 1 (.reg [
         ⟨(some 19), .mv (.t 3), none⟩,
         ⟨(some 20), .ld (.t 1) (some 131), none⟩,
         ⟨(some 21), .mv (.t 5), none⟩,
         ⟨(some 22), .call f_ref08_Entry [(.t 20), (.t 21)], none⟩,
         ⟨(some 23), .fa (.t 1) 114, none⟩,
         ⟨(some 24), .ld (.t 23) none, none⟩,
         ⟨(some 25), .mv (.t 5), none⟩,
         ⟨(some 26), .iaS (.t 24) (.t 25) 11, none⟩,
         ⟨(some 27), .fa (.t 26) 8, none⟩,
         ⟨(some 28), .ld (.t 27) none, none⟩,
         ⟨(some 29), .bsl e_int 1 [(.t 22), (.t 28)], none⟩,
         ⟨(some 30), .call f_ref08_sum [(.t 29)], none⟩,
         ⟨(some 31), .bsl e_int 1 [(.t 30)], none⟩,
         ⟨(some 32), .app e_int 1 8 (.t 19) (.t 31), none⟩,
         ⟨(some 3), .mv (.t 32), none⟩]))
     (.reg [
       ⟨(some 17), .mv (.t 5), none⟩,
       ⟨(some 18), .bin .add (.t 17) (.k (.int .i64 1)), none⟩,
       ⟨(some 5), .mv (.t 18), none⟩]))))))
  (.join (.seq (.reg [
     ⟨(some 33), .ld (.t 1) (some 131), none⟩,
     ⟨(some 34), .call f_ref08_On [(.t 33)], none⟩,
     ⟨(some 35), .call f_ref01_List [(.t 34)], none⟩,
     ⟨(some 36), .lenS (.t 35), none⟩,
     ⟨(some 37), .mv (.k (.int .i64 0)), none⟩])
   (.block 2 (.loop (.seq (.reg [
       ⟨(some 38), .bin .lss (.t 37) (.t 36), none⟩])
     (.join (.cond (.t 38) (.skip)
       (.exit 2))
     (.join (.block 3 (.seq (.reg [
         ⟨(some 39), .iaS (.t 35) (.t 37) 1, none⟩,
         ⟨(some 40), .ld (.t 39) none, none⟩,
         ⟨(some 7), .mv (.t 40), none⟩])
       (.reg [
         ⟨(some 41), .mv (.t 4), none⟩,
         ⟨(some 42), .mv (.t 7), none⟩,
         ⟨(some 43), .fa (.t 1) 0, none⟩,
         ⟨(some 44), .iaA (.t 43) (.t 42) 8 13, none⟩,
         ⟨(some 45), .fa (.t 44) 1, none⟩,
         ⟨(some 46), .ld (.t 45) none, none⟩,
         ⟨(some 47), .call f_ref01_Cap [(.t 46)], none⟩,
         ⟨(some 48), .mv (.t 7), none⟩,
         ⟨(some 49), .fa (.t 1) 0, none⟩,
         ⟨(some 50), .iaA (.t 49) (.t 48) 8 13, none⟩,
         ⟨(some 51), .fa (.t 50) 8, none⟩,
         ⟨(some 52), .ld (.t 51) none, none⟩,
         ⟨(some 53), .mv (.t 7), none⟩,
         ⟨(some 54), .fa (.t 1) 0, none⟩,
         ⟨(some 55), .iaA (.t 54) (.t 53) 8 13, none⟩,
         ⟨(some 56), .fa (.t 55) 9, none⟩,
         ⟨(some 57), .ld (.t 56) none, none⟩,
         ⟨(some 58), .bsl e_int 1 [(.t 52), (.t 57)], none⟩,
         ⟨(some 59), .call f_ref08_sum [(.t 58)], none⟩,
         ⟨(some 60), .bsl e_int 1 [(.t 47), (.t 59)], none⟩,
         ⟨(some 61), .app e_int 1 8 (.t 41) (.t 60), none⟩,
         ⟨(some 4), .mv (.t 61), none⟩])))
     (.reg [
       ⟨(some 62), .bin .add (.t 37) (.k (.int .i64 1)), none⟩,
       ⟨(some 37), .mv (.t 62), none⟩])))))))
  (.seq (.reg [
    ⟨(some 63), .mv (.t 3), none⟩,
    ⟨(some 64), .call f_ref08_most [(.t 63)], none⟩,
    ⟨(some 65), .mv (.t 4), none⟩,
    ⟨(some 66), .call f_ref08_most [(.t 65)], none⟩,
    ⟨(some 67), .ld (.t 1) (some 131), none⟩,
    ⟨(some 68), .call f_ref08_clear [(.t 67)], none⟩,
    ⟨(some 69), .fa (.t 1) 119, none⟩,
    ⟨(some 70), .ld (.t 69) none, none⟩,
    ⟨(some 71), .bsl e_int 1 [(.t 64), (.t 66), (.t 68), (.t 70), (.k (.int .i64 30))], none⟩,
    ⟨(some 72), .call f_ref08_sum [(.t 71)], none⟩,
    ⟨(some 2), .mv (.t 72), none⟩])
  (.ret))))))⟩

/-- crossbuck/set.bit -/
def cc_set_bit : CFn := ⟨11, [.tmp 2],
  .seq (.reg [
    ⟨(some 2), .mv (.k (.int .i64 0)), none⟩])
  (.join (.seq (.reg [
     ⟨(some 3), .mv (.t 0), none⟩,
     ⟨(some 4), .bin .lss (.t 3) (.k (.int .i64 0)), none⟩,
     ⟨(some 5), .mv (.t 4), none⟩,
     ⟨(some 6), .mv (.t 0), (some (5, false))⟩,
     ⟨(some 7), .bin .geq (.t 6) (.k (.int .i64 8)), (some (5, false))⟩,
     ⟨(some 8), .pick (.t 5) (.k (.bool true)) (.t 7), none⟩])
   (.cond (.t 8) (.seq (.reg [
      ⟨(some 2), .mv (.k (.int .i64 0)), none⟩])
    (.ret))
    (.skip)))
  (.seq (.reg [
    ⟨(some 9), .mv (.t 0), none⟩,
    ⟨(some 10), .bin .shl (.k (.int .i64 1)) (.t 9), none⟩,
    ⟨(some 2), .mv (.t 10), none⟩])
  (.ret)))⟩

/-- crossbuck/set.With -/
def cc_set_With (f_set_bit : Nat) : CFn := ⟨10, [.tmp 4],
  .seq (.reg [
    ⟨(some 4), .mv (.k (.int .i64 0)), none⟩])
  (.seq (.reg [
    ⟨(some 5), .mv (.t 0), none⟩,
    ⟨(some 6), .bin .and (.t 5) (.k (.int .i64 255)), none⟩,
    ⟨(some 7), .mv (.t 1), none⟩,
    ⟨(some 8), .call f_set_bit [(.t 7)], none⟩,
    ⟨(some 9), .bin .or (.t 6) (.t 8), none⟩,
    ⟨(some 4), .mv (.t 9), none⟩])
  (.ret))⟩

/-- crossbuck/crossbuckref08.Spots -/
def cc_ref08_Spots (e_crossbuckref08_Spot : Nat) : CFn := ⟨56, [.tmp 2],
  .seq (.reg [
    ⟨(some 1), .box (.t 0), none⟩,
    ⟨(some 2), .mv (.k .nils), none⟩])
  (.seq (.reg [
    ⟨(some 3), .mv (.k .nils), none⟩])
  (.join (.seq (.reg [
     ⟨(some 4), .mv (.k (.int .i64 0)), none⟩])
   (.block 0 (.loop (.join (.seq (.reg [
        ⟨(some 8), .mv (.t 4), none⟩,
        ⟨(some 9), .fa (.t 1) 104, none⟩,
        ⟨(some 10), .ld (.t 9) none, none⟩,
        ⟨(some 11), .lenS (.t 10), none⟩,
        ⟨(some 12), .bin .lss (.t 8) (.t 11), none⟩])
      (.cond (.t 12) (.skip)
       (.exit 0)))
     (.join (.block 1 (.seq (.reg [
         ⟨(some 5), .mv (.k (.int .i64 0)), none⟩])
       (.block 2 (.loop (.join (.seq (.reg [
            ⟨(some 15), .mv (.t 5), none⟩,
            ⟨(some 16), .bin .lss (.t 15) (.k (.int .i64 2)), none⟩])
          (.cond (.t 16) (.skip)
           (.exit 2)))
         (.join (.block 3 (.seq (.reg [
             ⟨(some 6), .mv (.k (.int .i64 0)), none⟩])
           (.block 4 (.loop (.join (.seq (.reg [
                ⟨(some 19), .mv (.t 6), none⟩,
                ⟨(some 20), .fa (.t 1) 104, none⟩,
                ⟨(some 21), .ld (.t 20) none, none⟩,
                ⟨(some 22), .mv (.t 4), none⟩,
                ⟨(some 23), .mv (.t 5), none⟩,
                ⟨(some 24), .iaS (.t 21) (.t 22) 2, none⟩,
                ⟨(some 25), .iaA (.t 24) (.t 23) 2 1, none⟩,
                ⟨(some 26), .ld (.t 25) none, none⟩,
                ⟨(some 27), .lenS (.t 26), none⟩,
                ⟨(some 28), .bin .lss (.t 19) (.t 27), none⟩])
              (.cond (.t 28) (.skip)
               (.exit 4)))
             (.join (.block 5 (.seq (.reg [
                 ⟨(some 31), .fa (.t 1) 104, none⟩,
                 ⟨(some 32), .ld (.t 31) none, none⟩,
                 ⟨(some 33), .mv (.t 4), none⟩,
                 ⟨(some 34), .mv (.t 5), none⟩,
                 ⟨(some 35), .iaS (.t 32) (.t 33) 2, none⟩,
                 ⟨(some 36), .iaA (.t 35) (.t 34) 2 1, none⟩,
                 ⟨(some 37), .ld (.t 36) none, none⟩,
                 ⟨(some 38), .mv (.t 6), none⟩,
                 ⟨(some 39), .iaS (.t 37) (.t 38) 1, none⟩,
                 ⟨(some 40), .ld (.t 39) none, none⟩,
                 ⟨(some 7), .mv (.t 40), none⟩])
               (.seq (.reg [
                 ⟨(some 41), .mv (.t 7), none⟩,
                 ⟨(some 42), .bin .geq (.t 41) (.k (.int .i64 0)), none⟩,
                 ⟨(some 43), .mv (.t 42), none⟩,
                 ⟨(some 44), .mv (.t 7), (some (43, true))⟩,
                 ⟨(some 45), .bin .lss (.t 44) (.k (.int .i64 8)), (some (43, true))⟩,
                 ⟨(some 46), .pick (.t 43) (.t 45) (.k (.bool false)), none⟩])
               (.cond (.t 46) (.reg [
                  ⟨(some 47), .mv (.t 3), none⟩,
                  ⟨(some 48), .mv (.t 4), none⟩,
                  ⟨(some 49), .mv (.t 5), none⟩,
                  ⟨(some 50), .mv (.t 6), none⟩,
                  ⟨(some 51), .mv (.t 7), none⟩,
                  ⟨(some 52), .build [(.int .i64 0), (.int .i64 0), (.int .i64 0), (.int .i64 0)] [(0, 1, (.t 48)), (1, 1, (.t 49)), (2, 1, (.t 50)), (3, 1, (.t 51))], none⟩,
                  ⟨(some 53), .bsl e_crossbuckref08_Spot 4 [(.t 52)], none⟩,
                  ⟨(some 54), .app e_crossbuckref08_Spot 4 32 (.t 47) (.t 53), none⟩,
                  ⟨(some 3), .mv (.t 54), none⟩])
                (.skip)))))
             (.reg [
               ⟨(some 29), .mv (.t 6), none⟩,
               ⟨(some 30), .bin .add (.t 29) (.k (.int .i64 1)), none⟩,
               ⟨(some 6), .mv (.t 30), none⟩])))))))
         (.reg [
           ⟨(some 17), .mv (.t 5), none⟩,
           ⟨(some 18), .bin .add (.t 17) (.k (.int .i64 1)), none⟩,
           ⟨(some 5), .mv (.t 18), none⟩])))))))
     (.reg [
       ⟨(some 13), .mv (.t 4), none⟩,
       ⟨(some 14), .bin .add (.t 13) (.k (.int .i64 1)), none⟩,
       ⟨(some 4), .mv (.t 14), none⟩]))))))
  (.seq (.reg [
    ⟨(some 55), .mv (.t 3), none⟩,
    ⟨(some 2), .mv (.t 55), none⟩])
  (.ret))))⟩

/-- crossbuck/crossbuckref08.Pass -/
def cc_ref08_Pass (e_int f_ref08_Spots f_ref08_Serve f_ref08_sum : Nat) : CFn := ⟨39, [.tmp 4],
  .seq (.reg [
    ⟨(some 2), .box (.t 0), none⟩,
    ⟨(some 4), .mv (.k (.int .i64 0)), none⟩])
  (.join (.seq (.reg [
     ⟨(some 8), .mv (.t 1), none⟩,
     ⟨(some 9), .bin .lss (.t 8) (.k (.int .i64 0)), none⟩,
     ⟨(some 10), .mv (.t 9), none⟩,
     ⟨(some 11), .mv (.t 1), (some (10, false))⟩,
     ⟨(some 12), .fa (.t 2) 104, (some (10, false))⟩,
     ⟨(some 13), .ld (.t 12) none, (some (10, false))⟩,
     ⟨(some 14), .lenS (.t 13), (some (10, false))⟩,
     ⟨(some 15), .bin .geq (.t 11) (.t 14), (some (10, false))⟩,
     ⟨(some 16), .pick (.t 10) (.k (.bool true)) (.t 15), none⟩])
   (.cond (.t 16) (.seq (.reg [
      ⟨(some 4), .mv (.k (.int .i64 0)), none⟩])
    (.ret))
    (.skip)))
  (.seq (.reg [
    ⟨(some 17), .bsl e_int 1 [(.k (.int .i64 8))], none⟩,
    ⟨(some 5), .mv (.t 17), none⟩])
  (.join (.seq (.reg [
     ⟨(some 18), .ld (.t 2) (some 131), none⟩,
     ⟨(some 19), .call f_ref08_Spots [(.t 18)], none⟩,
     ⟨(some 20), .lenS (.t 19), none⟩,
     ⟨(some 21), .mv (.k (.int .i64 0)), none⟩])
   (.block 0 (.loop (.seq (.reg [
       ⟨(some 22), .bin .lss (.t 21) (.t 20), none⟩])
     (.join (.cond (.t 22) (.skip)
       (.exit 0))
     (.join (.block 1 (.seq (.reg [
         ⟨(some 23), .iaS (.t 19) (.t 21) 4, none⟩,
         ⟨(some 24), .ld (.t 23) (some 4), none⟩,
         ⟨(some 7), .alloc [(.int .i64 0), (.int .i64 0), (.int .i64 0), (.int .i64 0)], none⟩,
         ⟨none, .st (.t 7) (.t 24) 4, none⟩])
       (.seq (.reg [
         ⟨(some 25), .fa (.t 7) 0, none⟩,
         ⟨(some 26), .ld (.t 25) none, none⟩,
         ⟨(some 27), .mv (.t 1), none⟩,
         ⟨(some 28), .bin .eql (.t 26) (.t 27), none⟩])
       (.cond (.t 28) (.reg [
          ⟨(some 29), .mv (.t 5), none⟩,
          ⟨(some 30), .ld (.t 2) (some 131), none⟩,
          ⟨(some 31), .fa (.t 7) 3, none⟩,
          ⟨(some 32), .ld (.t 31) none, none⟩,
          ⟨(some 33), .call f_ref08_Serve [(.t 30), (.t 32)], none⟩,
          ⟨(some 34), .bsl e_int 1 [(.t 33)], none⟩,
          ⟨(some 35), .app e_int 1 8 (.t 29) (.t 34), none⟩,
          ⟨(some 5), .mv (.t 35), none⟩])
        (.skip)))))
     (.reg [
       ⟨(some 36), .bin .add (.t 21) (.k (.int .i64 1)), none⟩,
       ⟨(some 21), .mv (.t 36), none⟩])))))))
  (.seq (.reg [
    ⟨(some 37), .mv (.t 5), none⟩,
    ⟨(some 38), .call f_ref08_sum [(.t 37)], none⟩,
    ⟨(some 4), .mv (.t 38), none⟩])
  (.ret)))))⟩

/-- crossbuck/crossbuckref01.Sum -/
def cc_ref01_Sum (f_ref01_Add : Nat) : CFn := ⟨18, [.tmp 2],
  .seq (.reg [
    ⟨(some 2), .mv (.k (.int .i64 0)), none⟩])
  (.seq (.reg [
    ⟨(some 3), .mv (.k (.int .i64 0)), none⟩])
  (.join (.seq (.reg [
     ⟨(some 4), .mv (.k (.int .i64 0)), none⟩])
   (.block 0 (.loop (.join (.seq (.reg [
        ⟨(some 5), .mv (.t 4), none⟩,
        ⟨(some 6), .mv (.t 0), none⟩,
        ⟨(some 7), .lenS (.t 6), none⟩,
        ⟨(some 8), .bin .lss (.t 5) (.t 7), none⟩])
      (.cond (.t 8) (.skip)
       (.exit 0)))
     (.join (.block 1 (.reg [
         ⟨(some 11), .mv (.t 3), none⟩,
         ⟨(some 12), .mv (.t 0), none⟩,
         ⟨(some 13), .mv (.t 4), none⟩,
         ⟨(some 14), .iaS (.t 12) (.t 13) 1, none⟩,
         ⟨(some 15), .ld (.t 14) none, none⟩,
         ⟨(some 16), .call f_ref01_Add [(.t 11), (.t 15)], none⟩,
         ⟨(some 3), .mv (.t 16), none⟩]))
     (.reg [
       ⟨(some 9), .mv (.t 4), none⟩,
       ⟨(some 10), .bin .add (.t 9) (.k (.int .i64 1)), none⟩,
       ⟨(some 4), .mv (.t 10), none⟩]))))))
  (.seq (.reg [
    ⟨(some 17), .mv (.t 3), none⟩,
    ⟨(some 2), .mv (.t 17), none⟩])
  (.ret))))⟩

/-- crossbuck/crossbuckref01.Cap -/
def cc_ref01_Cap (f_ref01_Cut : Nat) : CFn := ⟨5, [.tmp 2],
  .seq (.reg [
    ⟨(some 2), .mv (.k (.int .i64 0)), none⟩])
  (.seq (.reg [
    ⟨(some 3), .mv (.t 0), none⟩,
    ⟨(some 4), .call f_ref01_Cut [(.t 3), (.k (.int .i64 0)), (.k (.int .i64 2147483647))], none⟩,
    ⟨(some 2), .mv (.t 4), none⟩])
  (.ret))⟩

/-- crossbuck/crossbuckref08.Entry -/
def cc_ref08_Entry (f_ref08_clear e_int f_ref08_sum : Nat) : CFn := ⟨50, [.tmp 4],
  .seq (.reg [
    ⟨(some 2), .box (.t 0), none⟩,
    ⟨(some 4), .mv (.k (.int .i64 0)), none⟩])
  (.join (.seq (.reg [
     ⟨(some 7), .mv (.t 1), none⟩,
     ⟨(some 8), .bin .lss (.t 7) (.k (.int .i64 0)), none⟩,
     ⟨(some 9), .mv (.t 8), none⟩,
     ⟨(some 10), .mv (.t 1), (some (9, false))⟩,
     ⟨(some 11), .fa (.t 2) 114, (some (9, false))⟩,
     ⟨(some 12), .ld (.t 11) none, (some (9, false))⟩,
     ⟨(some 13), .lenS (.t 12), (some (9, false))⟩,
     ⟨(some 14), .bin .geq (.t 10) (.t 13), (some (9, false))⟩,
     ⟨(some 15), .pick (.t 9) (.k (.bool true)) (.t 14), none⟩])
   (.cond (.t 15) (.seq (.reg [
      ⟨(some 4), .mv (.k (.int .i64 0)), none⟩])
    (.ret))
    (.skip)))
  (.seq (.reg [
    ⟨(some 16), .fa (.t 2) 114, none⟩,
    ⟨(some 17), .ld (.t 16) none, none⟩,
    ⟨(some 18), .mv (.t 1), none⟩,
    ⟨(some 19), .iaS (.t 17) (.t 18) 11, none⟩,
    ⟨(some 20), .ld (.t 19) (some 11), none⟩,
    ⟨(some 5), .alloc z11_58867, none⟩,
    ⟨none, .st (.t 5) (.t 20) 11, none⟩])
  (.seq (.reg [
    ⟨(some 21), .ld (.t 2) (some 131), none⟩,
    ⟨(some 22), .call f_ref08_clear [(.t 21)], none⟩,
    ⟨(some 6), .mv (.t 22), none⟩])
  (.seq (.reg [
    ⟨(some 23), .fa (.t 5) 4, none⟩,
    ⟨(some 24), .ld (.t 23) none, none⟩,
    ⟨(some 25), .fa (.t 5) 7, none⟩,
    ⟨(some 26), .ld (.t 25) none, none⟩,
    ⟨(some 27), .fa (.t 5) 5, none⟩,
    ⟨(some 28), .ld (.t 27) none, none⟩,
    ⟨(some 29), .fa (.t 5) 5, none⟩,
    ⟨(some 30), .ld (.t 29) none, none⟩,
    ⟨(some 31), .fa (.t 5) 6, none⟩,
    ⟨(some 32), .ld (.t 31) none, none⟩,
    ⟨(some 33), .fa (.t 5) 6, none⟩,
    ⟨(some 34), .ld (.t 33) none, none⟩,
    ⟨(some 35), .fa (.t 5) 6, none⟩,
    ⟨(some 36), .ld (.t 35) none, none⟩,
    ⟨(some 37), .mv (.t 6), none⟩,
    ⟨(some 38), .mv (.t 6), none⟩,
    ⟨(some 39), .mv (.t 6), none⟩,
    ⟨(some 40), .mv (.t 6), none⟩,
    ⟨(some 41), .mv (.t 6), none⟩,
    ⟨(some 42), .fa (.t 2) 119, none⟩,
    ⟨(some 43), .ld (.t 42) none, none⟩,
    ⟨(some 44), .fa (.t 2) 119, none⟩,
    ⟨(some 45), .ld (.t 44) none, none⟩,
    ⟨(some 46), .fa (.t 2) 119, none⟩,
    ⟨(some 47), .ld (.t 46) none, none⟩,
    ⟨(some 48), .bsl e_int 1 [(.t 24), (.t 26), (.t 28), (.t 30), (.t 32), (.t 34), (.t 36), (.t 37), (.t 38), (.t 39), (.t 40), (.t 41), (.t 43), (.t 45), (.t 47), (.k (.int .i64 60))], none⟩,
    ⟨(some 49), .call f_ref08_sum [(.t 48)], none⟩,
    ⟨(some 4), .mv (.t 49), none⟩])
  (.ret)))))⟩

/-- crossbuck/crossbuckref08.most -/
def cc_ref08_most : CFn := ⟨18, [.tmp 2],
  .seq (.reg [
    ⟨(some 2), .mv (.k (.int .i64 0)), none⟩])
  (.seq (.reg [
    ⟨(some 3), .mv (.k (.int .i64 0)), none⟩])
  (.join (.seq (.reg [
     ⟨(some 4), .mv (.k (.int .i64 0)), none⟩])
   (.block 0 (.loop (.join (.seq (.reg [
        ⟨(some 5), .mv (.t 4), none⟩,
        ⟨(some 6), .mv (.t 0), none⟩,
        ⟨(some 7), .lenS (.t 6), none⟩,
        ⟨(some 8), .bin .lss (.t 5) (.t 7), none⟩])
      (.cond (.t 8) (.skip)
       (.exit 0)))
     (.join (.block 1 (.reg [
         ⟨(some 11), .mv (.t 3), none⟩,
         ⟨(some 12), .mv (.t 0), none⟩,
         ⟨(some 13), .mv (.t 4), none⟩,
         ⟨(some 14), .iaS (.t 12) (.t 13) 1, none⟩,
         ⟨(some 15), .ld (.t 14) none, none⟩,
         ⟨(some 16), .mm true [(.t 11), (.t 15)], none⟩,
         ⟨(some 3), .mv (.t 16), none⟩]))
     (.reg [
       ⟨(some 9), .mv (.t 4), none⟩,
       ⟨(some 10), .bin .add (.t 9) (.k (.int .i64 1)), none⟩,
       ⟨(some 4), .mv (.t 10), none⟩]))))))
  (.seq (.reg [
    ⟨(some 17), .mv (.t 3), none⟩,
    ⟨(some 2), .mv (.t 17), none⟩])
  (.ret))))⟩

/-- crossbuck/crossbuckref08.clear -/
def cc_ref08_clear (f_ref08_On f_ref01_List e_int f_ref08_sum f_ref08_most : Nat) : CFn := ⟨32, [.tmp 2],
  .seq (.reg [
    ⟨(some 1), .box (.t 0), none⟩,
    ⟨(some 2), .mv (.k (.int .i64 0)), none⟩])
  (.seq (.reg [
    ⟨(some 3), .mv (.k .nils), none⟩])
  (.join (.seq (.reg [
     ⟨(some 6), .ld (.t 1) (some 131), none⟩,
     ⟨(some 7), .call f_ref08_On [(.t 6)], none⟩,
     ⟨(some 8), .call f_ref01_List [(.t 7)], none⟩,
     ⟨(some 9), .lenS (.t 8), none⟩,
     ⟨(some 10), .mv (.k (.int .i64 0)), none⟩])
   (.block 0 (.loop (.seq (.reg [
       ⟨(some 11), .bin .lss (.t 10) (.t 9), none⟩])
     (.join (.cond (.t 11) (.skip)
       (.exit 0))
     (.join (.block 1 (.seq (.reg [
         ⟨(some 12), .iaS (.t 8) (.t 10) 1, none⟩,
         ⟨(some 13), .ld (.t 12) none, none⟩,
         ⟨(some 5), .mv (.t 13), none⟩])
       (.reg [
         ⟨(some 14), .mv (.t 3), none⟩,
         ⟨(some 15), .mv (.t 5), none⟩,
         ⟨(some 16), .fa (.t 1) 0, none⟩,
         ⟨(some 17), .iaA (.t 16) (.t 15) 8 13, none⟩,
         ⟨(some 18), .fa (.t 17) 6, none⟩,
         ⟨(some 19), .ld (.t 18) none, none⟩,
         ⟨(some 20), .mv (.t 5), none⟩,
         ⟨(some 21), .fa (.t 1) 0, none⟩,
         ⟨(some 22), .iaA (.t 21) (.t 20) 8 13, none⟩,
         ⟨(some 23), .fa (.t 22) 7, none⟩,
         ⟨(some 24), .ld (.t 23) none, none⟩,
         ⟨(some 25), .bsl e_int 1 [(.t 19), (.t 24)], none⟩,
         ⟨(some 26), .call f_ref08_sum [(.t 25)], none⟩,
         ⟨(some 27), .bsl e_int 1 [(.t 26)], none⟩,
         ⟨(some 28), .app e_int 1 8 (.t 14) (.t 27), none⟩,
         ⟨(some 3), .mv (.t 28), none⟩])))
     (.reg [
       ⟨(some 29), .bin .add (.t 10) (.k (.int .i64 1)), none⟩,
       ⟨(some 10), .mv (.t 29), none⟩])))))))
  (.seq (.reg [
    ⟨(some 30), .mv (.t 3), none⟩,
    ⟨(some 31), .call f_ref08_most [(.t 30)], none⟩,
    ⟨(some 2), .mv (.t 31), none⟩])
  (.ret))))⟩

/-- crossbuck/crossbuckref08.Serve -/
def cc_ref08_Serve (f_ref08_On f_ref01_Has f_ref01_Cap e_int f_ref08_sum f_ref08_most : Nat) : CFn := ⟨39, [.tmp 4],
  .seq (.reg [
    ⟨(some 2), .box (.t 0), none⟩,
    ⟨(some 4), .mv (.k (.int .i64 0)), none⟩])
  (.join (.seq (.reg [
     ⟨(some 6), .ld (.t 2) (some 131), none⟩,
     ⟨(some 7), .call f_ref08_On [(.t 6)], none⟩,
     ⟨(some 8), .mv (.t 1), none⟩,
     ⟨(some 9), .call f_ref01_Has [(.t 7), (.t 8)], none⟩,
     ⟨(some 10), .un .not (.t 9), none⟩])
   (.cond (.t 10) (.seq (.reg [
      ⟨(some 4), .mv (.k (.int .i64 0)), none⟩])
    (.ret))
    (.skip)))
  (.seq (.reg [
    ⟨(some 11), .mv (.t 1), none⟩,
    ⟨(some 12), .fa (.t 2) 0, none⟩,
    ⟨(some 13), .iaA (.t 12) (.t 11) 8 13, none⟩,
    ⟨(some 14), .ld (.t 13) (some 13), none⟩,
    ⟨(some 5), .alloc z13_14216, none⟩,
    ⟨none, .st (.t 5) (.t 14) 13, none⟩])
  (.seq (.reg [
    ⟨(some 15), .fa (.t 5) 1, none⟩,
    ⟨(some 16), .ld (.t 15) none, none⟩,
    ⟨(some 17), .call f_ref01_Cap [(.t 16)], none⟩,
    ⟨(some 18), .fa (.t 5) 8, none⟩,
    ⟨(some 19), .ld (.t 18) none, none⟩,
    ⟨(some 20), .fa (.t 5) 9, none⟩,
    ⟨(some 21), .ld (.t 20) none, none⟩,
    ⟨(some 22), .bsl e_int 1 [(.t 19), (.t 21)], none⟩,
    ⟨(some 23), .call f_ref08_sum [(.t 22)], none⟩,
    ⟨(some 24), .fa (.t 5) 4, none⟩,
    ⟨(some 25), .ld (.t 24) none, none⟩,
    ⟨(some 26), .call f_ref01_Cap [(.t 25)], none⟩,
    ⟨(some 27), .bsl e_int 1 [(.t 17), (.t 23), (.t 26)], none⟩,
    ⟨(some 28), .call f_ref08_most [(.t 27)], none⟩,
    ⟨(some 29), .fa (.t 2) 116, none⟩,
    ⟨(some 30), .ld (.t 29) none, none⟩,
    ⟨(some 31), .fa (.t 5) 6, none⟩,
    ⟨(some 32), .ld (.t 31) none, none⟩,
    ⟨(some 33), .fa (.t 5) 7, none⟩,
    ⟨(some 34), .ld (.t 33) none, none⟩,
    ⟨(some 35), .fa (.t 2) 119, none⟩,
    ⟨(some 36), .ld (.t 35) none, none⟩,
    ⟨(some 37), .bsl e_int 1 [(.t 28), (.t 30), (.t 32), (.t 34), (.t 36), (.k (.int .i64 8))], none⟩,
    ⟨(some 38), .call f_ref08_sum [(.t 37)], none⟩,
    ⟨(some 4), .mv (.t 38), none⟩])
  (.ret))))⟩

/-- crossbuck/crossbuckref01.Add -/
def cc_ref01_Add (f_ref01_Cap : Nat) : CFn := ⟨11, [.tmp 4],
  .seq (.reg [
    ⟨(some 4), .mv (.k (.int .i64 0)), none⟩])
  (.seq (.reg [
    ⟨(some 5), .mv (.t 0), none⟩,
    ⟨(some 6), .call f_ref01_Cap [(.t 5)], none⟩,
    ⟨(some 7), .mv (.t 1), none⟩,
    ⟨(some 8), .call f_ref01_Cap [(.t 7)], none⟩,
    ⟨(some 9), .bin .add (.t 6) (.t 8), none⟩,
    ⟨(some 10), .call f_ref01_Cap [(.t 9)], none⟩,
    ⟨(some 4), .mv (.t 10), none⟩])
  (.ret))⟩

/-- crossbuck/crossbuckref01.Cut -/
def cc_ref01_Cut : CFn := ⟨16, [.tmp 6],
  .seq (.reg [
    ⟨(some 6), .mv (.k (.int .i64 0)), none⟩])
  (.join (.seq (.reg [
     ⟨(some 7), .mv (.t 0), none⟩,
     ⟨(some 8), .mv (.t 1), none⟩,
     ⟨(some 9), .bin .lss (.t 7) (.t 8), none⟩])
   (.cond (.t 9) (.seq (.reg [
      ⟨(some 10), .mv (.t 1), none⟩,
      ⟨(some 6), .mv (.t 10), none⟩])
    (.ret))
    (.skip)))
  (.join (.seq (.reg [
     ⟨(some 11), .mv (.t 0), none⟩,
     ⟨(some 12), .mv (.t 2), none⟩,
     ⟨(some 13), .bin .gtr (.t 11) (.t 12), none⟩])
   (.cond (.t 13) (.seq (.reg [
      ⟨(some 14), .mv (.t 2), none⟩,
      ⟨(some 6), .mv (.t 14), none⟩])
    (.ret))
    (.skip)))
  (.seq (.reg [
    ⟨(some 15), .mv (.t 0), none⟩,
    ⟨(some 6), .mv (.t 15), none⟩])
  (.ret))))⟩


end Go.Eng
