/- LIBRARY: the compiled code of functions (printed by Gen.lean). -/
import Derived.Test.YtmdlpepjodcjeaaCode1
namespace Go.Eng
set_option linter.unusedSimpArgs false
set_option linter.unnecessarySimpa false
open Go
set_option linter.unusedVariables false
def z12_3332 : List AV := [(.int .i64 0), (.int .i64 0), (.int .i64 0), (.int .i64 0), (.int .i64 0), (.int .i64 0), (.int .i64 0), (.bool false), (.bool false), (.int .i64 0), (.int .i64 0), (.int .i64 0)]
def z96_20145 : List AV := [(.int .i64 0), (.int .i64 0), (.int .i64 0), (.int .i64 0), (.int .i64 0), (.int .i64 0), (.int .i64 0), (.bool false), (.bool false), (.int .i64 0), (.int .i64 0), (.int .i64 0), (.int .i64 0), (.int .i64 0), (.int .i64 0), (.int .i64 0), (.int .i64 0), (.int .i64 0), (.int .i64 0), (.bool false), (.bool false), (.int .i64 0), (.int .i64 0), (.int .i64 0), (.int .i64 0), (.int .i64 0), (.int .i64 0), (.int .i64 0), (.int .i64 0), (.int .i64 0), (.int .i64 0), (.bool false), (.bool false), (.int .i64 0), (.int .i64 0), (.int .i64 0), (.int .i64 0), (.int .i64 0), (.int .i64 0), (.int .i64 0), (.int .i64 0), (.int .i64 0), (.int .i64 0), (.bool false), (.bool false), (.int .i64 0), (.int .i64 0), (.int .i64 0), (.int .i64 0), (.int .i64 0), (.int .i64 0), (.int .i64 0), (.int .i64 0), (.int .i64 0), (.int .i64 0), (.bool false), (.bool false), (.int .i64 0), (.int .i64 0), (.int .i64 0), (.int .i64 0), (.int .i64 0), (.int .i64 0), (.int .i64 0), (.int .i64 0), (.int .i64 0), (.int .i64 0), (.bool false), (.bool false), (.int .i64 0), (.int .i64 0), (.int .i64 0), (.int .i64 0), (.int .i64 0), (.int .i64 0), (.int .i64 0), (.int .i64 0), (.int .i64 0), (.int .i64 0), (.bool false), (.bool false), (.int .i64 0), (.int .i64 0), (.int .i64 0), (.int .i64 0), (.int .i64 0), (.int .i64 0), (.int .i64 0), (.int .i64 0), (.int .i64 0), (.int .i64 0), (.bool false), (.bool false), (.int .i64 0), (.int .i64 0), (.int .i64 0)]
/-- crossbuck/crossbucklaw20.TransitFair -/
def cc_law20_TransitFair (f_law00_Table f_transit_Live f_transit_Hold f_transit_Early f_ref19_Green f_ref01_Has f_law20_awake : Nat) : CFn := ⟨128, [.tmp 8],
  .seq (.reg [
    ⟨(some 5), .box (.t 1), none⟩,
    ⟨(some 6), .box (.t 2), none⟩,
    ⟨(some 8), .mv (.k (.bool false)), none⟩])
  (.seq (.reg [
    ⟨(some 18), .mv (.t 0), none⟩,
    ⟨(some 19), .call f_law00_Table [(.t 18)], none⟩,
    ⟨(some 9), .alloc z131_45020, none⟩,
    ⟨none, .st (.t 9) (.t 19) 131, none⟩])
  (.seq (.reg [
    ⟨(some 20), .ld (.t 9) (some 131), none⟩,
    ⟨(some 21), .ld (.t 5) (some 6), none⟩,
    ⟨(some 22), .mv (.t 3), none⟩,
    ⟨(some 23), .call f_transit_Live [(.t 20), (.t 21), (.t 22)], none⟩,
    ⟨(some 10), .mv (.t 23), none⟩])
  (.seq (.reg [
    ⟨(some 24), .ld (.t 9) (some 131), none⟩,
    ⟨(some 25), .ld (.t 5) (some 6), none⟩,
    ⟨(some 26), .ld (.t 6) (some 96), none⟩,
    ⟨(some 27), .mv (.t 3), none⟩,
    ⟨(some 28), .call f_transit_Hold [(.t 24), (.t 25), (.t 26), (.t 27)], none⟩,
    ⟨(some 11), .mv (.t 28), none⟩])
  (.seq (.reg [
    ⟨(some 29), .ld (.t 9) (some 131), none⟩,
    ⟨(some 30), .ld (.t 5) (some 6), none⟩,
    ⟨(some 31), .ld (.t 6) (some 96), none⟩,
    ⟨(some 32), .mv (.t 3), none⟩,
    ⟨(some 33), .call f_transit_Early [(.t 29), (.t 30), (.t 31), (.t 32)], none⟩,
    ⟨(some 12), .mv (.t 33), none⟩])
  (.seq (.reg [
    ⟨(some 34), .ld (.t 6) (some 96), none⟩,
    ⟨(some 35), .call f_ref19_Green [(.t 34)], none⟩,
    ⟨(some 13), .mv (.t 35), none⟩])
  (.seq (.reg [
    ⟨(some 14), .mv (.k (.int .i64 0)), none⟩,
    ⟨(some 15), .mv (.k (.int .i64 255)), none⟩])
  (.join (.seq (.reg [
     ⟨(some 16), .mv (.k (.int .i64 0)), none⟩])
   (.block 0 (.loop (.join (.seq (.reg [
        ⟨(some 36), .mv (.t 16), none⟩,
        ⟨(some 37), .fa (.t 9) 115, none⟩,
        ⟨(some 38), .ld (.t 37) none, none⟩,
        ⟨(some 39), .lenS (.t 38), none⟩,
        ⟨(some 40), .bin .lss (.t 36) (.t 39), none⟩])
      (.cond (.t 40) (.skip)
       (.exit 0)))
     (.join (.block 1 (.join (.seq (.reg [
          ⟨(some 43), .mv (.t 10), none⟩,
          ⟨(some 44), .mv (.t 16), none⟩,
          ⟨(some 45), .cvII .u64 (.t 44), none⟩,
          ⟨(some 46), .bin .shr (.t 43) (.t 45), none⟩,
          ⟨(some 47), .bin .and (.t 46) (.k (.int .i64 1)), none⟩,
          ⟨(some 48), .bin .eql (.t 47) (.k (.int .i64 0)), none⟩])
        (.cond (.t 48) (.exit 1)
         (.skip)))
       (.seq (.reg [
         ⟨(some 49), .mv (.t 14), none⟩,
         ⟨(some 50), .fa (.t 9) 115, none⟩,
         ⟨(some 51), .ld (.t 50) none, none⟩,
         ⟨(some 52), .mv (.t 16), none⟩,
         ⟨(some 53), .iaS (.t 51) (.t 52) 2, none⟩,
         ⟨(some 54), .fa (.t 53) 0, none⟩,
         ⟨(some 55), .ld (.t 54) none, none⟩,
         ⟨(some 56), .bin .or (.t 49) (.t 55), none⟩,
         ⟨(some 14), .mv (.t 56), none⟩])
       (.seq (.reg [
         ⟨(some 57), .fa (.t 9) 115, none⟩,
         ⟨(some 58), .ld (.t 57) none, none⟩,
         ⟨(some 59), .mv (.t 16), none⟩,
         ⟨(some 60), .iaS (.t 58) (.t 59) 2, none⟩,
         ⟨(some 61), .fa (.t 60) 0, none⟩,
         ⟨(some 62), .ld (.t 61) none, none⟩,
         ⟨(some 63), .mv (.t 13), none⟩,
         ⟨(some 64), .bin .and (.t 62) (.t 63), none⟩,
         ⟨(some 65), .bin .eql (.t 64) (.k (.int .i64 0)), none⟩])
       (.cond (.t 65) (.reg [
          ⟨(some 66), .mv (.t 15), none⟩,
          ⟨(some 67), .fa (.t 9) 115, none⟩,
          ⟨(some 68), .ld (.t 67) none, none⟩,
          ⟨(some 69), .mv (.t 16), none⟩,
          ⟨(some 70), .iaS (.t 68) (.t 69) 2, none⟩,
          ⟨(some 71), .fa (.t 70) 0, none⟩,
          ⟨(some 72), .ld (.t 71) none, none⟩,
          ⟨(some 73), .bin .and (.t 66) (.t 72), none⟩,
          ⟨(some 15), .mv (.t 73), none⟩])
        (.skip))))))
     (.reg [
       ⟨(some 41), .mv (.t 16), none⟩,
       ⟨(some 42), .bin .add (.t 41) (.k (.int .i64 1)), none⟩,
       ⟨(some 16), .mv (.t 42), none⟩]))))))
  (.join (.seq (.reg [
     ⟨(some 17), .mv (.k (.int .i64 0)), none⟩])
   (.block 2 (.loop (.join (.seq (.reg [
        ⟨(some 74), .mv (.t 17), none⟩,
        ⟨(some 75), .bin .lss (.t 74) (.k (.int .i64 8)), none⟩])
      (.cond (.t 75) (.skip)
       (.exit 2)))
     (.join (.block 3 (.seq (.reg [
         ⟨(some 78), .mv (.t 11), none⟩,
         ⟨(some 79), .mv (.t 17), none⟩,
         ⟨(some 80), .call f_ref01_Has [(.t 78), (.t 79)], none⟩,
         ⟨(some 81), .mv (.t 80), none⟩,
         ⟨(some 82), .mv (.t 14), (some (81, true))⟩,
         ⟨(some 83), .mv (.t 13), (some (81, true))⟩,
         ⟨(some 84), .bin .and (.t 82) (.t 83), (some (81, true))⟩,
         ⟨(some 85), .mv (.t 17), (some (81, true))⟩,
         ⟨(some 86), .call f_ref01_Has [(.t 84), (.t 85)], (some (81, true))⟩,
         ⟨(some 87), .un .not (.t 86), (some (81, true))⟩,
         ⟨(some 88), .mv (.t 87), (some (81, true))⟩,
         ⟨(some 89), .mv (.t 17), (some (88, false))⟩,
         ⟨(some 90), .iaA (.t 6) (.t 89) 8 12, (some (88, false))⟩,
         ⟨(some 91), .fa (.t 90) 6, (some (88, false))⟩,
         ⟨(some 92), .ld (.t 91) none, (some (88, false))⟩,
         ⟨(some 93), .fa (.t 9) 116, (some (88, false))⟩,
         ⟨(some 94), .ld (.t 93) none, (some (88, false))⟩,
         ⟨(some 95), .bin .geq (.t 92) (.t 94), (some (88, false))⟩,
         ⟨(some 96), .pick (.t 88) (.k (.bool true)) (.t 95), (some (81, true))⟩,
         ⟨(some 97), .pick (.t 81) (.t 96) (.k (.bool false)), none⟩])
       (.cond (.t 97) (.seq (.reg [
          ⟨(some 8), .mv (.k (.bool false)), none⟩])
        (.ret))
        (.skip))))
     (.reg [
       ⟨(some 76), .mv (.t 17), none⟩,
       ⟨(some 77), .bin .add (.t 76) (.k (.int .i64 1)), none⟩,
       ⟨(some 17), .mv (.t 77), none⟩]))))))
  (.seq (.reg [
    ⟨(some 98), .mv (.t 12), none⟩,
    ⟨(some 99), .mv (.t 15), none⟩,
    ⟨(some 100), .bin .andNot (.k (.int .i64 255)) (.t 99), none⟩,
    ⟨(some 101), .bin .eql (.t 98) (.t 100), none⟩,
    ⟨(some 102), .mv (.t 101), none⟩,
    ⟨(some 103), .mv (.t 10), (some (102, true))⟩,
    ⟨(some 104), .bin .neq (.t 103) (.k (.int .i64 0)), (some (102, true))⟩,
    ⟨(some 105), .mv (.t 104), (some (102, true))⟩,
    ⟨(some 106), .mv (.t 11), (some (105, false))⟩,
    ⟨(some 107), .bin .eql (.t 106) (.k (.int .i64 0)), (some (105, false))⟩,
    ⟨(some 108), .mv (.t 107), (some (105, false))⟩,
    ⟨(some 109), .mv (.t 12), (some (108, true))⟩,
    ⟨(some 110), .bin .eql (.t 109) (.k (.int .i64 0)), (some (108, true))⟩,
    ⟨(some 111), .pick (.t 108) (.t 110) (.k (.bool false)), (some (105, false))⟩,
    ⟨(some 112), .pick (.t 105) (.k (.bool true)) (.t 111), (some (102, true))⟩,
    ⟨(some 113), .pick (.t 102) (.t 112) (.k (.bool false)), none⟩,
    ⟨(some 114), .mv (.t 113), none⟩,
    ⟨(some 115), .fa (.t 5) 5, (some (114, true))⟩,
    ⟨(some 116), .ld (.t 115) none, (some (114, true))⟩,
    ⟨(some 117), .fa (.t 9) 117, (some (114, true))⟩,
    ⟨(some 118), .ld (.t 117) none, (some (114, true))⟩,
    ⟨(some 119), .bin .lss (.t 116) (.t 118), (some (114, true))⟩,
    ⟨(some 120), .mv (.t 119), (some (114, true))⟩,
    ⟨(some 121), .mv (.t 11), (some (120, false))⟩,
    ⟨(some 122), .bin .eql (.t 121) (.k (.int .i64 0)), (some (120, false))⟩,
    ⟨(some 123), .pick (.t 120) (.k (.bool true)) (.t 122), (some (114, true))⟩,
    ⟨(some 124), .pick (.t 114) (.t 123) (.k (.bool false)), none⟩,
    ⟨(some 125), .mv (.t 124), none⟩,
    ⟨(some 126), .call f_law20_awake [], (some (125, true))⟩,
    ⟨(some 127), .pick (.t 125) (.t 126) (.k (.bool false)), none⟩,
    ⟨(some 8), .mv (.t 127), none⟩])
  (.ret))))))))))⟩

/-- crossbuck/crossbucklaw20.TransitLocks -/
def cc_law20_TransitLocks (f_law00_Table f_law20_awake f_transit_Live f_transit_Step : Nat) : CFn := ⟨114, [.tmp 4],
  .seq (.reg [
    ⟨(some 4), .mv (.k (.bool false)), none⟩])
  (.seq (.reg [
    ⟨(some 13), .mv (.t 0), none⟩,
    ⟨(some 14), .call f_law00_Table [(.t 13)], none⟩,
    ⟨(some 5), .alloc z131_45020, none⟩,
    ⟨none, .st (.t 5) (.t 14) 131, none⟩])
  (.join (.seq (.reg [
     ⟨(some 15), .mv (.t 1), none⟩,
     ⟨(some 16), .lenS (.t 15), none⟩,
     ⟨(some 17), .bin .gtr (.t 16) (.k (.int .i64 200)), none⟩])
   (.cond (.t 17) (.seq (.reg [
      ⟨(some 18), .call f_law20_awake [], none⟩,
      ⟨(some 4), .mv (.t 18), none⟩])
    (.ret))
    (.skip)))
  (.seq (.reg [
    ⟨(some 6), .alloc [(.int .i64 0), (.int .i64 0), (.int .i64 0), (.int .i64 0), (.int .i64 0), (.int .i64 0)], none⟩])
  (.seq (.reg [
    ⟨(some 7), .alloc [(.int .i64 0), (.int .i64 0), (.int .i64 0), (.int .i64 0)], none⟩])
  (.seq (.reg [
    ⟨(some 8), .mv (.k (.int .i64 0)), none⟩])
  (.join (.seq (.reg [
     ⟨(some 9), .mv (.k (.int .i64 0)), none⟩])
   (.block 0 (.loop (.join (.seq (.reg [
        ⟨(some 19), .mv (.t 9), none⟩,
        ⟨(some 20), .mv (.t 1), none⟩,
        ⟨(some 21), .lenS (.t 20), none⟩,
        ⟨(some 22), .bin .lss (.t 19) (.t 21), none⟩])
      (.cond (.t 22) (.skip)
       (.exit 0)))
     (.join (.block 1 (.seq (.reg [
         ⟨(some 25), .ld (.t 5) (some 131), none⟩,
         ⟨(some 26), .ld (.t 6) (some 6), none⟩,
         ⟨(some 27), .mv (.t 1), none⟩,
         ⟨(some 28), .mv (.t 9), none⟩,
         ⟨(some 29), .iaS (.t 27) (.t 28) 1, none⟩,
         ⟨(some 30), .ld (.t 29) none, none⟩,
         ⟨(some 31), .call f_transit_Live [(.t 25), (.t 26), (.t 30)], none⟩,
         ⟨(some 10), .mv (.t 31), none⟩])
       (.join (.seq (.reg [
          ⟨(some 11), .mv (.k (.int .i64 0)), none⟩])
        (.block 2 (.loop (.join (.seq (.reg [
             ⟨(some 32), .mv (.t 11), none⟩,
             ⟨(some 33), .bin .lss (.t 32) (.k (.int .i64 4)), none⟩])
           (.cond (.t 33) (.skip)
            (.exit 2)))
          (.join (.block 3 (.seq (.reg [
              ⟨(some 36), .mv (.t 11), none⟩,
              ⟨(some 37), .fa (.t 5) 115, none⟩,
              ⟨(some 38), .ld (.t 37) none, none⟩,
              ⟨(some 39), .lenS (.t 38), none⟩,
              ⟨(some 40), .bin .lss (.t 36) (.t 39), none⟩,
              ⟨(some 41), .mv (.t 40), none⟩,
              ⟨(some 42), .mv (.t 1), (some (41, true))⟩,
              ⟨(some 43), .mv (.t 9), (some (41, true))⟩,
              ⟨(some 44), .iaS (.t 42) (.t 43) 1, (some (41, true))⟩,
              ⟨(some 45), .ld (.t 44) none, (some (41, true))⟩,
              ⟨(some 46), .mv (.t 11), (some (41, true))⟩,
              ⟨(some 47), .cvII .u64 (.t 46), (some (41, true))⟩,
              ⟨(some 48), .bin .shr (.t 45) (.t 47), (some (41, true))⟩,
              ⟨(some 49), .bin .and (.t 48) (.k (.int .i64 1)), (some (41, true))⟩,
              ⟨(some 50), .bin .eql (.t 49) (.k (.int .i64 1)), (some (41, true))⟩,
              ⟨(some 51), .pick (.t 41) (.t 50) (.k (.bool false)), none⟩,
              ⟨(some 52), .mv (.t 51), none⟩,
              ⟨(some 53), .mv (.t 11), (some (52, true))⟩,
              ⟨(some 54), .iaA (.t 7) (.t 53) 4 1, (some (52, true))⟩,
              ⟨(some 55), .ld (.t 54) none, (some (52, true))⟩,
              ⟨(some 56), .bin .eql (.t 55) (.k (.int .i64 0)), (some (52, true))⟩,
              ⟨(some 57), .pick (.t 52) (.t 56) (.k (.bool false)), none⟩,
              ⟨(some 12), .mv (.t 57), none⟩])
            (.join (.seq (.reg [
               ⟨(some 58), .mv (.t 10), none⟩,
               ⟨(some 59), .mv (.t 11), none⟩,
               ⟨(some 60), .cvII .u64 (.t 59), none⟩,
               ⟨(some 61), .bin .shr (.t 58) (.t 60), none⟩,
               ⟨(some 62), .bin .and (.t 61) (.k (.int .i64 1)), none⟩,
               ⟨(some 63), .bin .eql (.t 62) (.k (.int .i64 1)), none⟩,
               ⟨(some 64), .mv (.t 12), none⟩,
               ⟨(some 65), .bb true (.t 63) (.t 64), none⟩])
             (.cond (.t 65) (.seq (.reg [
                ⟨(some 4), .mv (.k (.bool false)), none⟩])
              (.ret))
              (.skip)))
            (.seq (.reg [
              ⟨(some 66), .mv (.t 11), none⟩,
              ⟨(some 67), .iaA (.t 7) (.t 66) 4 1, none⟩,
              ⟨(some 68), .ld (.t 67) none, none⟩,
              ⟨(some 69), .bin .gtr (.t 68) (.k (.int .i64 0)), none⟩])
            (.cond (.t 69) (.reg [
               ⟨(some 70), .mv (.t 11), none⟩,
               ⟨(some 71), .iaA (.t 7) (.t 70) 4 1, none⟩,
               ⟨(some 72), .ld (.t 71) none, none⟩,
               ⟨(some 73), .bin .sub (.t 72) (.k (.int .i64 1)), none⟩,
               ⟨(some 74), .iaA (.t 7) (.t 70) 4 1, none⟩,
               ⟨none, .st (.t 74) (.t 73) 1, none⟩])
             (.seq (.reg [
               ⟨(some 75), .mv (.t 8), none⟩,
               ⟨(some 76), .mv (.t 11), none⟩,
               ⟨(some 77), .cvII .u64 (.t 76), none⟩,
               ⟨(some 78), .bin .shr (.t 75) (.t 77), none⟩,
               ⟨(some 79), .bin .and (.t 78) (.k (.int .i64 1)), none⟩,
               ⟨(some 80), .bin .eql (.t 79) (.k (.int .i64 1)), none⟩,
               ⟨(some 81), .mv (.t 80), none⟩,
               ⟨(some 82), .mv (.t 1), (some (81, true))⟩,
               ⟨(some 83), .mv (.t 9), (some (81, true))⟩,
               ⟨(some 84), .iaS (.t 82) (.t 83) 1, (some (81, true))⟩,
               ⟨(some 85), .ld (.t 84) none, (some (81, true))⟩,
               ⟨(some 86), .mv (.t 11), (some (81, true))⟩,
               ⟨(some 87), .cvII .u64 (.t 86), (some (81, true))⟩,
               ⟨(some 88), .bin .shr (.t 85) (.t 87), (some (81, true))⟩,
               ⟨(some 89), .bin .and (.t 88) (.k (.int .i64 1)), (some (81, true))⟩,
               ⟨(some 90), .bin .eql (.t 89) (.k (.int .i64 0)), (some (81, true))⟩,
               ⟨(some 91), .pick (.t 81) (.t 90) (.k (.bool false)), none⟩])
             (.cond (.t 91) (.reg [
                ⟨(some 92), .mv (.t 11), none⟩,
                ⟨(some 93), .fa (.t 5) 115, none⟩,
                ⟨(some 94), .ld (.t 93) none, none⟩,
                ⟨(some 95), .mv (.t 11), none⟩,
                ⟨(some 96), .iaS (.t 94) (.t 95) 2, none⟩,
                ⟨(some 97), .fa (.t 96) 1, none⟩,
                ⟨(some 98), .ld (.t 97) none, none⟩,
                ⟨(some 99), .iaA (.t 7) (.t 92) 4 1, none⟩,
                ⟨none, .st (.t 99) (.t 98) 1, none⟩])
              (.skip))))))))
          (.reg [
            ⟨(some 34), .mv (.t 11), none⟩,
            ⟨(some 35), .bin .add (.t 34) (.k (.int .i64 1)), none⟩,
            ⟨(some 11), .mv (.t 35), none⟩]))))))
       (.seq (.reg [
         ⟨(some 100), .ld (.t 5) (some 131), none⟩,
         ⟨(some 101), .ld (.t 6) (some 6), none⟩,
         ⟨(some 102), .mv (.t 1), none⟩,
         ⟨(some 103), .mv (.t 9), none⟩,
         ⟨(some 104), .iaS (.t 102) (.t 103) 1, none⟩,
         ⟨(some 105), .ld (.t 104) none, none⟩,
         ⟨(some 106), .call f_transit_Step [(.t 100), (.t 101), (.t 105), (.k (.bool false)), (.k (.bool false))], none⟩,
         ⟨none, .st (.t 6) (.t 106) 6, none⟩])
       (.reg [
         ⟨(some 107), .mv (.t 10), none⟩,
         ⟨(some 8), .mv (.t 107), none⟩])))))
     (.reg [
       ⟨(some 23), .mv (.t 9), none⟩,
       ⟨(some 24), .bin .add (.t 23) (.k (.int .i64 1)), none⟩,
       ⟨(some 9), .mv (.t 24), none⟩]))))))
  (.seq (.reg [
    ⟨(some 108), .fa (.t 6) 5, none⟩,
    ⟨(some 109), .ld (.t 108) none, none⟩,
    ⟨(some 110), .bin .eql (.t 109) (.k (.int .i64 0)), none⟩,
    ⟨(some 111), .mv (.t 110), none⟩,
    ⟨(some 112), .call f_law20_awake [], (some (111, true))⟩,
    ⟨(some 113), .pick (.t 111) (.t 112) (.k (.bool false)), none⟩,
    ⟨(some 4), .mv (.t 113), none⟩])
  (.ret))))))))⟩

/-- crossbuck/crossbucklaw20.TransitBudget -/
def cc_law20_TransitBudget (f_law00_Table f_law20_awake f_ref01_Has f_transit_Hold f_transit_Step : Nat) : CFn := ⟨89, [.tmp 6],
  .seq (.reg [
    ⟨(some 6), .mv (.k (.bool false)), none⟩])
  (.seq (.reg [
    ⟨(some 15), .mv (.t 0), none⟩,
    ⟨(some 16), .call f_law00_Table [(.t 15)], none⟩,
    ⟨(some 7), .alloc z131_45020, none⟩,
    ⟨none, .st (.t 7) (.t 16) 131, none⟩])
  (.join (.seq (.reg [
     ⟨(some 17), .mv (.t 1), none⟩,
     ⟨(some 18), .lenS (.t 17), none⟩,
     ⟨(some 19), .bin .gtr (.t 18) (.k (.int .i64 200)), none⟩,
     ⟨(some 20), .mv (.t 19), none⟩,
     ⟨(some 21), .mv (.t 2), (some (20, false))⟩,
     ⟨(some 22), .lenS (.t 21), (some (20, false))⟩,
     ⟨(some 23), .bin .eql (.t 22) (.k (.int .i64 0)), (some (20, false))⟩,
     ⟨(some 24), .pick (.t 20) (.k (.bool true)) (.t 23), none⟩])
   (.cond (.t 24) (.seq (.reg [
      ⟨(some 25), .call f_law20_awake [], none⟩,
      ⟨(some 6), .mv (.t 25), none⟩])
    (.ret))
    (.skip)))
  (.seq (.reg [
    ⟨(some 8), .alloc [(.int .i64 0), (.int .i64 0), (.int .i64 0), (.int .i64 0), (.int .i64 0), (.int .i64 0)], none⟩])
  (.seq (.reg [
    ⟨(some 9), .mv (.k (.int .i64 0)), none⟩])
  (.join (.seq (.reg [
     ⟨(some 10), .mv (.k (.int .i64 0)), none⟩])
   (.block 0 (.loop (.join (.seq (.reg [
        ⟨(some 26), .mv (.t 10), none⟩,
        ⟨(some 27), .mv (.t 1), none⟩,
        ⟨(some 28), .lenS (.t 27), none⟩,
        ⟨(some 29), .bin .lss (.t 26) (.t 28), none⟩])
      (.cond (.t 29) (.skip)
       (.exit 0)))
     (.join (.block 1 (.seq (.reg [
         ⟨(some 11), .alloc z96_20145, none⟩])
       (.join (.seq (.reg [
          ⟨(some 12), .mv (.k (.int .i64 0)), none⟩])
        (.block 2 (.loop (.join (.seq (.reg [
             ⟨(some 32), .mv (.t 12), none⟩,
             ⟨(some 33), .bin .lss (.t 32) (.k (.int .i64 8)), none⟩])
           (.cond (.t 33) (.skip)
            (.exit 2)))
          (.join (.block 3 (.seq (.reg [
              ⟨(some 36), .mv (.t 2), none⟩,
              ⟨(some 37), .mv (.t 10), none⟩,
              ⟨(some 38), .mv (.t 2), none⟩,
              ⟨(some 39), .lenS (.t 38), none⟩,
              ⟨(some 40), .bin .rem (.t 37) (.t 39), none⟩,
              ⟨(some 41), .iaS (.t 36) (.t 40) 1, none⟩,
              ⟨(some 42), .ld (.t 41) none, none⟩,
              ⟨(some 43), .mv (.t 12), none⟩,
              ⟨(some 44), .call f_ref01_Has [(.t 42), (.t 43)], none⟩])
            (.cond (.t 44) (.reg [
               ⟨(some 45), .mv (.t 12), none⟩,
               ⟨(some 46), .iaA (.t 11) (.t 45) 8 12, none⟩,
               ⟨(some 47), .fa (.t 46) 0, none⟩,
               ⟨none, .st (.t 47) (.k (.int .i64 1)) 1, none⟩])
             (.skip))))
          (.reg [
            ⟨(some 34), .mv (.t 12), none⟩,
            ⟨(some 35), .bin .add (.t 34) (.k (.int .i64 1)), none⟩,
            ⟨(some 12), .mv (.t 35), none⟩]))))))
       (.seq (.reg [
         ⟨(some 48), .ld (.t 7) (some 131), none⟩,
         ⟨(some 49), .ld (.t 8) (some 6), none⟩,
         ⟨(some 50), .ld (.t 11) (some 96), none⟩,
         ⟨(some 51), .mv (.t 1), none⟩,
         ⟨(some 52), .mv (.t 10), none⟩,
         ⟨(some 53), .iaS (.t 51) (.t 52) 1, none⟩,
         ⟨(some 54), .ld (.t 53) none, none⟩,
         ⟨(some 55), .call f_transit_Hold [(.t 48), (.t 49), (.t 50), (.t 54)], none⟩,
         ⟨(some 56), .bin .neq (.t 55) (.k (.int .i64 0)), none⟩,
         ⟨(some 13), .mv (.t 56), none⟩])
       (.seq (.reg [
         ⟨(some 57), .mv (.t 1), none⟩,
         ⟨(some 58), .mv (.t 10), none⟩,
         ⟨(some 59), .iaS (.t 57) (.t 58) 1, none⟩,
         ⟨(some 60), .ld (.t 59) none, none⟩,
         ⟨(some 61), .bin .shr (.t 60) (.k (.int .u64 8)), none⟩,
         ⟨(some 62), .bin .and (.t 61) (.k (.int .i64 15)), none⟩,
         ⟨(some 63), .bin .eql (.t 62) (.k (.int .i64 1)), none⟩,
         ⟨(some 14), .mv (.t 63), none⟩])
       (.join (.seq (.reg [
          ⟨(some 64), .mv (.t 13), none⟩,
          ⟨(some 65), .mv (.t 64), none⟩,
          ⟨(some 66), .mv (.t 9), (some (65, true))⟩,
          ⟨(some 67), .fa (.t 7) 117, (some (65, true))⟩,
          ⟨(some 68), .ld (.t 67) none, (some (65, true))⟩,
          ⟨(some 69), .bin .geq (.t 66) (.t 68), (some (65, true))⟩,
          ⟨(some 70), .pick (.t 65) (.t 69) (.k (.bool false)), none⟩])
        (.cond (.t 70) (.seq (.reg [
           ⟨(some 6), .mv (.k (.bool false)), none⟩])
         (.ret))
         (.skip)))
       (.join (.seq (.reg [
          ⟨(some 71), .mv (.t 14), none⟩])
        (.cond (.t 71) (.reg [
           ⟨(some 9), .mv (.k (.int .i64 0)), none⟩])
         (.skip)))
       (.join (.seq (.reg [
          ⟨(some 72), .mv (.t 13), none⟩])
        (.cond (.t 72) (.reg [
           ⟨(some 73), .mv (.t 9), none⟩,
           ⟨(some 74), .bin .add (.t 73) (.k (.int .i64 1)), none⟩,
           ⟨(some 9), .mv (.t 74), none⟩])
         (.skip)))
       (.seq (.reg [
         ⟨(some 75), .ld (.t 7) (some 131), none⟩,
         ⟨(some 76), .ld (.t 8) (some 6), none⟩,
         ⟨(some 77), .mv (.t 1), none⟩,
         ⟨(some 78), .mv (.t 10), none⟩,
         ⟨(some 79), .iaS (.t 77) (.t 78) 1, none⟩,
         ⟨(some 80), .ld (.t 79) none, none⟩,
         ⟨(some 81), .mv (.t 13), none⟩,
         ⟨(some 82), .mv (.t 14), none⟩,
         ⟨(some 83), .call f_transit_Step [(.t 75), (.t 76), (.t 80), (.t 81), (.t 82)], none⟩,
         ⟨none, .st (.t 8) (.t 83) 6, none⟩])
       (.seq (.reg [
         ⟨(some 84), .fa (.t 8) 5, none⟩,
         ⟨(some 85), .ld (.t 84) none, none⟩,
         ⟨(some 86), .mv (.t 9), none⟩,
         ⟨(some 87), .bin .neq (.t 85) (.t 86), none⟩])
       (.cond (.t 87) (.seq (.reg [
          ⟨(some 6), .mv (.k (.bool false)), none⟩])
        (.ret))
        (.skip))))))))))))
     (.reg [
       ⟨(some 30), .mv (.t 10), none⟩,
       ⟨(some 31), .bin .add (.t 30) (.k (.int .i64 1)), none⟩,
       ⟨(some 10), .mv (.t 31), none⟩]))))))
  (.seq (.reg [
    ⟨(some 88), .call f_law20_awake [], none⟩,
    ⟨(some 6), .mv (.t 88), none⟩])
  (.ret)))))))⟩

/-- crossbuck/transit.Live -/
def cc_transit_Live (f_transit_each : Nat) : CFn := ⟨24, [.tmp 6],
  .seq (.reg [
    ⟨(some 3), .box (.t 0), none⟩,
    ⟨(some 4), .box (.t 1), none⟩,
    ⟨(some 6), .mv (.k (.int .i64 0)), none⟩])
  (.seq (.reg [
    ⟨(some 7), .alloc [(.int .i64 0)], none⟩,
    ⟨none, .st (.t 7) (.k (.int .i64 0)) 1, none⟩])
  (.join (.seq (.reg [
     ⟨(some 9), .ld (.t 3) (some 131), none⟩,
     ⟨(some 10), .mv (.t 2), none⟩,
     ⟨(some 11), .call f_transit_each [(.t 9), (.t 10)], none⟩])
   (.block 0 (.rfor (.t 11) [12, 13] [12, 13, 8, 14, 15, 16, 17, 18, 19, 20, 21, 22] (.reg [
       ⟨(some 8), .mv (.t 12), none⟩])
     (.block 1 (.seq (.reg [
        ⟨(some 14), .mv (.t 8), none⟩,
        ⟨(some 15), .fa (.t 4) 0, none⟩,
        ⟨(some 16), .iaA (.t 15) (.t 14) 4 1, none⟩,
        ⟨(some 17), .ld (.t 16) none, none⟩,
        ⟨(some 18), .bin .leq (.t 17) (.k (.int .i64 0)), none⟩])
      (.cond (.t 18) (.reg [
         ⟨(some 19), .ld (.t 7) none, none⟩,
         ⟨(some 20), .mv (.t 8), none⟩,
         ⟨(some 21), .bin .shl (.k (.int .i64 1)) (.t 20), none⟩,
         ⟨(some 22), .bin .or (.t 19) (.t 21), none⟩,
         ⟨none, .st (.t 7) (.t 22) 1, none⟩])
       (.skip)))))))
  (.seq (.reg [
    ⟨(some 23), .ld (.t 7) none, none⟩,
    ⟨(some 6), .mv (.t 23), none⟩])
  (.ret))))⟩

/-- crossbuck/transit.Hold -/
def cc_transit_Hold (f_transit_Live f_transit_each f_transit_Hold_1 f_transit_those : Nat) : CFn := ⟨34, [.tmp 8],
  .seq (.reg [
    ⟨(some 4), .box (.t 0), none⟩,
    ⟨(some 5), .box (.t 1), none⟩,
    ⟨(some 6), .box (.t 2), none⟩,
    ⟨(some 8), .mv (.k (.int .i64 0)), none⟩])
  (.join (.seq (.reg [
     ⟨(some 12), .fa (.t 5) 5, none⟩,
     ⟨(some 13), .ld (.t 12) none, none⟩,
     ⟨(some 14), .fa (.t 4) 117, none⟩,
     ⟨(some 15), .ld (.t 14) none, none⟩,
     ⟨(some 16), .bin .geq (.t 13) (.t 15), none⟩])
   (.cond (.t 16) (.seq (.reg [
      ⟨(some 8), .mv (.k (.int .i64 0)), none⟩])
    (.ret))
    (.skip)))
  (.seq (.reg [
    ⟨(some 9), .alloc [(.int .i64 0)], none⟩,
    ⟨none, .st (.t 9) (.k (.int .i64 0)) 1, none⟩])
  (.join (.seq (.reg [
     ⟨(some 17), .ld (.t 4) (some 131), none⟩,
     ⟨(some 18), .ld (.t 4) (some 131), none⟩,
     ⟨(some 19), .ld (.t 5) (some 6), none⟩,
     ⟨(some 20), .mv (.t 3), none⟩,
     ⟨(some 21), .call f_transit_Live [(.t 18), (.t 19), (.t 20)], none⟩,
     ⟨(some 22), .call f_transit_each [(.t 17), (.t 21)], none⟩])
   (.block 0 (.rfor (.t 22) [23, 24] [23, 24, 11, 25, 26, 27, 28] (.reg [
       ⟨(some 11), .alloc [(.int .i64 0), (.int .i64 0)], none⟩,
       ⟨none, .st (.t 11) (.t 24) 2, none⟩])
     (.block 1 (.reg [
        ⟨(some 25), .ld (.t 9) none, none⟩,
        ⟨(some 26), .fa (.t 11) 0, none⟩,
        ⟨(some 27), .ld (.t 26) none, none⟩,
        ⟨(some 28), .bin .or (.t 25) (.t 27), none⟩,
        ⟨none, .st (.t 9) (.t 28) 1, none⟩])))))
  (.seq (.regD [
    ⟨(some 29), .ld (.t 9) none, none⟩,
    ⟨(some 30), .ld (.t 6) (some 96), none⟩,
    ⟨(some 31), .mkf (.func f_transit_Hold_1) [] [(.t 4)], none⟩,
    ⟨(some 32), .call f_transit_those [(.t 30), (.t 31)], none⟩,
    ⟨(some 33), .bin .and (.t 29) (.t 32), none⟩,
    ⟨(some 8), .mv (.t 33), none⟩] [(0, 2), (1, 2)])
  (.ret)))))⟩

/-- crossbuck/transit.Early -/
def cc_transit_Early (f_transit_those f_transit_Early_1 f_transit_Live f_transit_each : Nat) : CFn := ⟨34, [.tmp 8],
  .seq (.reg [
    ⟨(some 4), .box (.t 0), none⟩,
    ⟨(some 5), .box (.t 1), none⟩,
    ⟨(some 6), .box (.t 2), none⟩,
    ⟨(some 8), .mv (.k (.int .i64 0)), none⟩])
  (.seq (.reg [
    ⟨(some 13), .ld (.t 6) (some 96), none⟩,
    ⟨(some 14), .call f_transit_those [(.t 13), (.k (.fn (.func f_transit_Early_1) [] []))], none⟩,
    ⟨(some 9), .alloc [(.int .i64 0)], none⟩,
    ⟨(some 10), .alloc [(.int .i64 0)], none⟩,
    ⟨none, .st (.t 9) (.t 14) 1, none⟩,
    ⟨none, .st (.t 10) (.k (.int .i64 0)) 1, none⟩])
  (.join (.seq (.reg [
     ⟨(some 15), .ld (.t 4) (some 131), none⟩,
     ⟨(some 16), .ld (.t 4) (some 131), none⟩,
     ⟨(some 17), .ld (.t 5) (some 6), none⟩,
     ⟨(some 18), .mv (.t 3), none⟩,
     ⟨(some 19), .call f_transit_Live [(.t 16), (.t 17), (.t 18)], none⟩,
     ⟨(some 20), .call f_transit_each [(.t 15), (.t 19)], none⟩])
   (.block 0 (.rfor (.t 20) [21, 22] [21, 22, 12, 23, 24, 25, 26, 27, 28, 29, 30, 31, 32] (.reg [
       ⟨(some 12), .alloc [(.int .i64 0), (.int .i64 0)], none⟩,
       ⟨none, .st (.t 12) (.t 22) 2, none⟩])
     (.block 1 (.seq (.reg [
        ⟨(some 23), .fa (.t 12) 0, none⟩,
        ⟨(some 24), .ld (.t 23) none, none⟩,
        ⟨(some 25), .ld (.t 9) none, none⟩,
        ⟨(some 26), .bin .and (.t 24) (.t 25), none⟩,
        ⟨(some 27), .bin .eql (.t 26) (.k (.int .i64 0)), none⟩])
      (.cond (.t 27) (.reg [
         ⟨(some 28), .ld (.t 10) none, none⟩,
         ⟨(some 29), .fa (.t 12) 0, none⟩,
         ⟨(some 30), .ld (.t 29) none, none⟩,
         ⟨(some 31), .bin .andNot (.k (.int .i64 255)) (.t 30), none⟩,
         ⟨(some 32), .bin .or (.t 28) (.t 31), none⟩,
         ⟨none, .st (.t 10) (.t 32) 1, none⟩])
       (.skip)))))))
  (.seq (.reg [
    ⟨(some 33), .ld (.t 10) none, none⟩,
    ⟨(some 8), .mv (.t 33), none⟩])
  (.ret))))⟩

/-- crossbuck/crossbuckref19.Green -/
def cc_ref19_Green (f_ref01_With : Nat) : CFn := ⟨18, [.tmp 2],
  .seq (.reg [
    ⟨(some 1), .box (.t 0), none⟩,
    ⟨(some 2), .mv (.k (.int .i64 0)), none⟩])
  (.seq (.reg [
    ⟨(some 3), .mv (.k (.int .i64 0)), none⟩])
  (.join (.seq (.reg [
     ⟨(some 4), .mv (.k (.int .i64 0)), none⟩])
   (.block 0 (.loop (.join (.seq (.reg [
        ⟨(some 5), .mv (.t 4), none⟩,
        ⟨(some 6), .bin .lss (.t 5) (.k (.int .i64 8)), none⟩])
      (.cond (.t 6) (.skip)
       (.exit 0)))
     (.join (.block 1 (.seq (.reg [
         ⟨(some 9), .mv (.t 4), none⟩,
         ⟨(some 10), .iaA (.t 1) (.t 9) 8 12, none⟩,
         ⟨(some 11), .fa (.t 10) 0, none⟩,
         ⟨(some 12), .ld (.t 11) none, none⟩,
         ⟨(some 13), .bin .eql (.t 12) (.k (.int .i64 1)), none⟩])
       (.cond (.t 13) (.reg [
          ⟨(some 14), .mv (.t 3), none⟩,
          ⟨(some 15), .mv (.t 4), none⟩,
          ⟨(some 16), .call f_ref01_With [(.t 14), (.t 15)], none⟩,
          ⟨(some 3), .mv (.t 16), none⟩])
        (.skip))))
     (.reg [
       ⟨(some 7), .mv (.t 4), none⟩,
       ⟨(some 8), .bin .add (.t 7) (.k (.int .i64 1)), none⟩,
       ⟨(some 4), .mv (.t 8), none⟩]))))))
  (.seq (.reg [
    ⟨(some 17), .mv (.t 3), none⟩,
    ⟨(some 2), .mv (.t 17), none⟩])
  (.ret))))⟩

/-- crossbuck/crossbucklaw20.awake -/
def cc_law20_awake (e_api_Bus f_transit_Early f_transit_Hold f_transit_Live : Nat) : CFn := ⟨30, [.tmp 0],
  .seq (.reg [
    ⟨(some 0), .mv (.k (.bool false)), none⟩])
  (.seq (.reg [
    ⟨(some 4), .build [(.int .i64 0), (.int .i64 0)] [(0, 1, (.k (.int .i64 2))), (1, 1, (.k (.int .i64 5)))], none⟩,
    ⟨(some 5), .bsl e_api_Bus 2 [(.t 4)], none⟩,
    ⟨(some 6), .build z131_45020 [(115, 1, (.t 5)), (116, 1, (.k (.int .i64 3))), (117, 1, (.k (.int .i64 9)))], none⟩,
    ⟨(some 1), .alloc z131_45020, none⟩,
    ⟨none, .st (.t 1) (.t 6) 131, none⟩])
  (.seq (.reg [
    ⟨(some 2), .alloc z96_20145, none⟩])
  (.seq (.reg [
    ⟨(some 7), .iaA (.t 2) (.k (.int .i64 0)) 8 12, none⟩,
    ⟨(some 8), .fa (.t 7) 0, none⟩,
    ⟨none, .st (.t 8) (.k (.int .i64 1)) 1, none⟩])
  (.seq (.reg [
    ⟨(some 9), .ld (.t 1) (some 131), none⟩,
    ⟨(some 10), .build [(.int .i64 0), (.int .i64 0), (.int .i64 0), (.int .i64 0), (.int .i64 0), (.int .i64 0)] [], none⟩,
    ⟨(some 11), .ld (.t 2) (some 96), none⟩,
    ⟨(some 12), .call f_transit_Early [(.t 9), (.t 10), (.t 11), (.k (.int .i64 1))], none⟩,
    ⟨(some 3), .mv (.t 12), none⟩])
  (.seq (.reg [
    ⟨(some 13), .iaA (.t 2) (.k (.int .i64 1)) 8 12, none⟩,
    ⟨(some 14), .fa (.t 13) 0, none⟩,
    ⟨none, .st (.t 14) (.k (.int .i64 1)) 1, none⟩])
  (.seq (.reg [
    ⟨(some 15), .mv (.t 3), none⟩,
    ⟨(some 16), .bin .eql (.t 15) (.k (.int .i64 253)), none⟩,
    ⟨(some 17), .mv (.t 16), none⟩,
    ⟨(some 18), .ld (.t 1) (some 131), (some (17, true))⟩,
    ⟨(some 19), .build [(.int .i64 0), (.int .i64 0), (.int .i64 0), (.int .i64 0), (.int .i64 0), (.int .i64 0)] [], (some (17, true))⟩,
    ⟨(some 20), .ld (.t 2) (some 96), (some (17, true))⟩,
    ⟨(some 21), .call f_transit_Hold [(.t 18), (.t 19), (.t 20), (.k (.int .i64 1))], (some (17, true))⟩,
    ⟨(some 22), .bin .eql (.t 21) (.k (.int .i64 2)), (some (17, true))⟩,
    ⟨(some 23), .pick (.t 17) (.t 22) (.k (.bool false)), none⟩,
    ⟨(some 24), .mv (.t 23), none⟩,
    ⟨(some 25), .ld (.t 1) (some 131), (some (24, true))⟩,
    ⟨(some 26), .build [(.int .i64 0), (.int .i64 0), (.int .i64 0), (.int .i64 0), (.int .i64 0), (.int .i64 0)] [], (some (24, true))⟩,
    ⟨(some 27), .call f_transit_Live [(.t 25), (.t 26), (.k (.int .i64 3))], (some (24, true))⟩,
    ⟨(some 28), .bin .eql (.t 27) (.k (.int .i64 1)), (some (24, true))⟩,
    ⟨(some 29), .pick (.t 24) (.t 28) (.k (.bool false)), none⟩,
    ⟨(some 0), .mv (.t 29), none⟩])
  (.ret)))))))⟩

/-- crossbuck/transit.Step -/
def cc_transit_Step (f_transit_Live f_transit_more f_transit_each : Nat) : CFn := ⟨66, [.cell 10 (some 6)],
  .seq (.reg [
    ⟨(some 5), .box (.t 0), none⟩,
    ⟨(some 6), .box (.t 1), none⟩,
    ⟨(some 7), .box (.t 2), none⟩,
    ⟨(some 10), .alloc [(.int .i64 0), (.int .i64 0), (.int .i64 0), (.int .i64 0), (.int .i64 0), (.int .i64 0)], none⟩])
  (.seq (.reg [
    ⟨(some 14), .ld (.t 5) (some 131), none⟩,
    ⟨(some 15), .ld (.t 6) (some 6), none⟩,
    ⟨(some 16), .ld (.t 7) none, none⟩,
    ⟨(some 17), .call f_transit_Live [(.t 14), (.t 15), (.t 16)], none⟩,
    ⟨(some 18), .fa (.t 6) 5, none⟩,
    ⟨(some 19), .ld (.t 18) none, none⟩,
    ⟨(some 20), .build [(.int .i64 0), (.int .i64 0), (.int .i64 0), (.int .i64 0), (.int .i64 0), (.int .i64 0)] [(4, 1, (.t 17)), (5, 1, (.t 19))], none⟩,
    ⟨(some 11), .alloc [(.int .i64 0), (.int .i64 0), (.int .i64 0), (.int .i64 0), (.int .i64 0), (.int .i64 0)], none⟩,
    ⟨none, .st (.t 11) (.t 20) 6, none⟩])
  (.join (.seq (.reg [
     ⟨(some 21), .mv (.t 4), none⟩])
   (.cond (.t 21) (.reg [
      ⟨(some 22), .fa (.t 11) 5, none⟩,
      ⟨none, .st (.t 22) (.k (.int .i64 0)) 1, none⟩])
    (.skip)))
  (.join (.seq (.reg [
     ⟨(some 23), .mv (.t 3), none⟩])
   (.cond (.t 23) (.reg [
      ⟨(some 24), .fa (.t 11) 5, none⟩,
      ⟨(some 25), .ld (.t 24) none, none⟩,
      ⟨(some 26), .call f_transit_more [(.t 25)], none⟩,
      ⟨(some 27), .fa (.t 11) 5, none⟩,
      ⟨none, .st (.t 27) (.t 26) 1, none⟩])
    (.skip)))
  (.join (.seq (.reg [
     ⟨(some 28), .ld (.t 5) (some 131), none⟩,
     ⟨(some 29), .call f_transit_each [(.t 28), (.k (.int .i64 15))], none⟩])
   (.block 0 (.rfor (.t 29) [30, 31] [30, 31, 12, 13, 33, 34, 35, 36, 37, 32, 38, 39, 40, 41, 42, 43, 44, 45, 47, 48, 49, 50, 51, 52, 53, 54, 55, 56, 57, 58, 59, 46, 60, 61, 62, 63, 64] (.seq (.reg [
       ⟨(some 12), .mv (.t 30), none⟩])
     (.reg [
       ⟨(some 13), .alloc [(.int .i64 0), (.int .i64 0)], none⟩,
       ⟨none, .st (.t 13) (.t 31) 2, none⟩]))
     (.block 1 (.block 2 (.seq (.reg [
         ⟨(some 33), .mv (.t 12), none⟩,
         ⟨(some 34), .fa (.t 6) 0, none⟩,
         ⟨(some 35), .iaA (.t 34) (.t 33) 4 1, none⟩,
         ⟨(some 36), .ld (.t 35) none, none⟩,
         ⟨(some 37), .bin .gtr (.t 36) (.k (.int .i64 0)), none⟩,
         ⟨(some 32), .mv (.t 37), none⟩])
       (.cond (.t 32) (.reg [
          ⟨(some 38), .mv (.t 12), none⟩,
          ⟨(some 39), .mv (.t 12), none⟩,
          ⟨(some 40), .fa (.t 6) 0, none⟩,
          ⟨(some 41), .iaA (.t 40) (.t 39) 4 1, none⟩,
          ⟨(some 42), .ld (.t 41) none, none⟩,
          ⟨(some 43), .bin .sub (.t 42) (.k (.int .i64 1)), none⟩,
          ⟨(some 44), .fa (.t 11) 0, none⟩,
          ⟨(some 45), .iaA (.t 44) (.t 38) 4 1, none⟩,
          ⟨none, .st (.t 45) (.t 43) 1, none⟩])
        (.seq (.reg [
          ⟨(some 47), .fa (.t 6) 4, none⟩,
          ⟨(some 48), .ld (.t 47) none, none⟩,
          ⟨(some 49), .mv (.t 12), none⟩,
          ⟨(some 50), .bin .shr (.t 48) (.t 49), none⟩,
          ⟨(some 51), .bin .and (.t 50) (.k (.int .i64 1)), none⟩,
          ⟨(some 52), .bin .eql (.t 51) (.k (.int .i64 1)), none⟩,
          ⟨(some 53), .mv (.t 52), none⟩,
          ⟨(some 54), .ld (.t 7) none, (some (53, true))⟩,
          ⟨(some 55), .mv (.t 12), (some (53, true))⟩,
          ⟨(some 56), .bin .shr (.t 54) (.t 55), (some (53, true))⟩,
          ⟨(some 57), .bin .and (.t 56) (.k (.int .i64 1)), (some (53, true))⟩,
          ⟨(some 58), .bin .eql (.t 57) (.k (.int .i64 0)), (some (53, true))⟩,
          ⟨(some 59), .pick (.t 53) (.t 58) (.k (.bool false)), none⟩,
          ⟨(some 46), .mv (.t 59), none⟩])
        (.cond (.t 46) (.reg [
           ⟨(some 60), .mv (.t 12), none⟩,
           ⟨(some 61), .fa (.t 13) 1, none⟩,
           ⟨(some 62), .ld (.t 61) none, none⟩,
           ⟨(some 63), .fa (.t 11) 0, none⟩,
           ⟨(some 64), .iaA (.t 63) (.t 60) 4 1, none⟩,
           ⟨none, .st (.t 64) (.t 62) 1, none⟩])
         (.skip))))))))))
  (.seq (.reg [
    ⟨(some 65), .ld (.t 11) (some 6), none⟩,
    ⟨none, .st (.t 10) (.t 65) 6, none⟩])
  (.ret))))))⟩

/-- crossbuck/transit.each -/
def cc_transit_each (f_transit_each_1 : Nat) : CFn := ⟨6, [.tmp 4],
  .seq (.reg [
    ⟨(some 2), .box (.t 0), none⟩,
    ⟨(some 3), .box (.t 1), none⟩,
    ⟨(some 4), .mv (.k .nilfn), none⟩])
  (.seq (.reg [
    ⟨(some 5), .mkf (.func f_transit_each_1) [] [(.t 2), (.t 3)], none⟩,
    ⟨(some 4), .mv (.t 5), none⟩])
  (.ret))⟩

/-- crossbuck/transit.those -/
def cc_transit_those (f_set_With : Nat) : CFn := ⟨21, [.tmp 4],
  .seq (.reg [
    ⟨(some 2), .box (.t 0), none⟩,
    ⟨(some 4), .mv (.k (.int .i64 0)), none⟩])
  (.seq (.reg [
    ⟨(some 5), .mv (.k (.int .i64 0)), none⟩])
  (.join (.seq (.reg [
     ⟨(some 8), .ld (.t 2) (some 96), none⟩,
     ⟨(some 9), .mv (.k (.int .i64 0)), none⟩])
   (.block 0 (.loop (.seq (.reg [
       ⟨(some 10), .bin .lss (.t 9) (.k (.int .i64 8)), none⟩])
     (.join (.cond (.t 10) (.skip)
       (.exit 0))
     (.join (.block 1 (.seq (.reg [
         ⟨(some 11), .mv (.t 9), none⟩,
         ⟨(some 12), .ixA (.t 8) (.t 9) 8 12 (some 12), none⟩,
         ⟨(some 7), .alloc z12_3332, none⟩,
         ⟨(some 6), .mv (.t 11), none⟩,
         ⟨none, .st (.t 7) (.t 12) 12, none⟩])
       (.seq (.reg [
         ⟨(some 13), .mv (.t 1), none⟩,
         ⟨(some 14), .ld (.t 7) (some 12), none⟩,
         ⟨(some 15), .callv (.t 13) [(.t 14)], none⟩])
       (.cond (.t 15) (.reg [
          ⟨(some 16), .mv (.t 5), none⟩,
          ⟨(some 17), .mv (.t 6), none⟩,
          ⟨(some 18), .call f_set_With [(.t 16), (.t 17)], none⟩,
          ⟨(some 5), .mv (.t 18), none⟩])
        (.skip)))))
     (.reg [
       ⟨(some 19), .bin .add (.t 9) (.k (.int .i64 1)), none⟩,
       ⟨(some 9), .mv (.t 19), none⟩])))))))
  (.seq (.reg [
    ⟨(some 20), .mv (.t 5), none⟩,
    ⟨(some 4), .mv (.t 20), none⟩])
  (.ret))))⟩

/-- crossbuck/transit.Hold$1 -/
def cc_transit_Hold_1 : CFn := ⟨14, [.tmp 3],
  .seq (.reg [
    ⟨(some 2), .box (.t 0), none⟩,
    ⟨(some 3), .mv (.k (.bool false)), none⟩])
  (.seq (.reg [
    ⟨(some 4), .fa (.t 2) 0, none⟩,
    ⟨(some 5), .ld (.t 4) none, none⟩,
    ⟨(some 6), .bin .eql (.t 5) (.k (.int .i64 1)), none⟩,
    ⟨(some 7), .mv (.t 6), none⟩,
    ⟨(some 8), .fa (.t 2) 6, (some (7, true))⟩,
    ⟨(some 9), .ld (.t 8) none, (some (7, true))⟩,
    ⟨(some 10), .fa (.t 1) 116, (some (7, true))⟩,
    ⟨(some 11), .ld (.t 10) none, (some (7, true))⟩,
    ⟨(some 12), .bin .lss (.t 9) (.t 11), (some (7, true))⟩,
    ⟨(some 13), .pick (.t 7) (.t 12) (.k (.bool false)), none⟩,
    ⟨(some 3), .mv (.t 13), none⟩])
  (.ret))⟩

/-- crossbuck/transit.Early$1 -/
def cc_transit_Early_1 : CFn := ⟨6, [.tmp 2],
  .seq (.reg [
    ⟨(some 1), .box (.t 0), none⟩,
    ⟨(some 2), .mv (.k (.bool false)), none⟩])
  (.seq (.reg [
    ⟨(some 3), .fa (.t 1) 0, none⟩,
    ⟨(some 4), .ld (.t 3) none, none⟩,
    ⟨(some 5), .bin .eql (.t 4) (.k (.int .i64 1)), none⟩,
    ⟨(some 2), .mv (.t 5), none⟩])
  (.ret))⟩

/-- crossbuck/transit.more -/
def cc_transit_more : CFn := ⟨7, [.tmp 2],
  .seq (.reg [
    ⟨(some 2), .mv (.k (.int .i64 0)), none⟩])
  (.seq (.reg [
    ⟨(some 3), .mv (.t 0), none⟩,
    ⟨(some 4), .mm true [(.t 3), (.k (.int .i64 0))], none⟩,
    ⟨(some 5), .mm false [(.t 4), (.k (.int .i64 9999))], none⟩,
    ⟨(some 6), .bin .add (.t 5) (.k (.int .i64 1)), none⟩,
    ⟨(some 2), .mv (.t 6), none⟩])
  (.ret))⟩

/-- crossbuck/transit.each$1 -/
def cc_transit_each_1 : CFn := ⟨32, [],
  .seq (.reg [
    ⟨(some 6), .fa (.t 1) 115, none⟩,
    ⟨(some 7), .ld (.t 6) none, none⟩,
    ⟨(some 8), .fa (.t 1) 115, none⟩,
    ⟨(some 9), .ld (.t 8) none, none⟩,
    ⟨(some 10), .lenS (.t 9), none⟩,
    ⟨(some 11), .mm false [(.t 10), (.k (.int .i64 4))], none⟩,
    ⟨(some 12), .slS 2 (.t 7) none (some (.t 11)), none⟩,
    ⟨(some 13), .lenS (.t 12), none⟩,
    ⟨(some 14), .mv (.k (.int .i64 0)), none⟩])
  (.block 0 (.loop (.seq (.reg [
      ⟨(some 15), .bin .lss (.t 14) (.t 13), none⟩])
    (.join (.cond (.t 15) (.skip)
      (.exit 0))
    (.join (.block 1 (.seq (.reg [
        ⟨(some 16), .mv (.t 14), none⟩,
        ⟨(some 17), .iaS (.t 12) (.t 14) 2, none⟩,
        ⟨(some 18), .ld (.t 17) (some 2), none⟩,
        ⟨(some 5), .alloc [(.int .i64 0), (.int .i64 0)], none⟩,
        ⟨(some 4), .mv (.t 16), none⟩,
        ⟨none, .st (.t 5) (.t 18) 2, none⟩])
      (.seq (.reg [
        ⟨(some 19), .ld (.t 2) none, none⟩,
        ⟨(some 20), .mv (.t 4), none⟩,
        ⟨(some 21), .bin .shr (.t 19) (.t 20), none⟩,
        ⟨(some 22), .bin .and (.t 21) (.k (.int .i64 1)), none⟩,
        ⟨(some 23), .bin .eql (.t 22) (.k (.int .i64 1)), none⟩,
        ⟨(some 24), .mv (.t 23), none⟩,
        ⟨(some 25), .mv (.t 0), (some (24, true))⟩,
        ⟨(some 26), .mv (.t 4), (some (24, true))⟩,
        ⟨(some 27), .ld (.t 5) (some 2), (some (24, true))⟩,
        ⟨(some 28), .callv (.t 25) [(.t 26), (.t 27)], (some (24, true))⟩,
        ⟨(some 29), .un .not (.t 28), (some (24, true))⟩,
        ⟨(some 30), .pick (.t 24) (.t 29) (.k (.bool false)), none⟩])
      (.cond (.t 30) (.ret)
       (.skip)))))
    (.reg [
      ⟨(some 31), .bin .add (.t 14) (.k (.int .i64 1)), none⟩,
      ⟨(some 14), .mv (.t 31), none⟩]))))))⟩


end Go.Eng
