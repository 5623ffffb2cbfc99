/- LIBRARY: the compiled code of functions (printed by Gen.lean). -/
import Derived.Test.YtmdlpepjodcjeaaCode2
namespace Go.Eng
set_option linter.unusedSimpArgs false
set_option linter.unnecessarySimpa false
open Go
set_option linter.unusedVariables false

/-- crossbuck/crossbucklaw02.SecsBack -/
def cc_law02_SecsBack (f_ref01_Cut f_secs_Of f_secs_Ticks f_ref01_Seconds f_ref01_Alike f_law02_awake : Nat) : CFn := ⟨64, [.tmp 4],
  .seq (.reg [
    ⟨(some 4), .mv (.k (.bool false)), none⟩])
  (.seq (.reg [
    ⟨(some 13), .mv (.t 0), none⟩,
    ⟨(some 14), .call f_ref01_Cut [(.t 13), (.k (.int .i64 0)), (.k (.int .i64 9999))], none⟩,
    ⟨(some 5), .mv (.t 14), none⟩])
  (.seq (.reg [
    ⟨(some 15), .mv (.t 0), none⟩,
    ⟨(some 16), .call f_secs_Of [(.t 15)], none⟩,
    ⟨(some 6), .mv (.t 16), none⟩])
  (.seq (.reg [
    ⟨(some 18), .mv (.t 6), none⟩,
    ⟨(some 19), .call f_secs_Ticks [(.t 18)], none⟩,
    ⟨(some 17), .mv (.t 19), none⟩,
    ⟨(some 20), .ext (.t 17) 0, none⟩,
    ⟨(some 21), .ext (.t 17) 1, none⟩,
    ⟨(some 7), .mv (.t 20), none⟩,
    ⟨(some 8), .mv (.t 21), none⟩])
  (.seq (.reg [
    ⟨(some 22), .mv (.t 6), none⟩,
    ⟨(some 23), .bin .sub (.t 22) (.k (.float .f64 4584304132692975288)), none⟩,
    ⟨(some 9), .mv (.t 23), none⟩])
  (.join (.seq (.reg [
     ⟨(some 24), .mv (.t 1), none⟩])
   (.cond (.t 24) (.reg [
      ⟨(some 25), .mv (.t 6), none⟩,
      ⟨(some 26), .bin .add (.t 25) (.k (.float .f64 4584304132692975288)), none⟩,
      ⟨(some 9), .mv (.t 26), none⟩])
    (.skip)))
  (.seq (.reg [
    ⟨(some 28), .mv (.t 9), none⟩,
    ⟨(some 29), .call f_secs_Ticks [(.t 28)], none⟩,
    ⟨(some 27), .mv (.t 29), none⟩,
    ⟨(some 30), .ext (.t 27) 0, none⟩,
    ⟨(some 31), .ext (.t 27) 1, none⟩,
    ⟨(some 10), .mv (.t 30), none⟩,
    ⟨(some 11), .mv (.t 31), none⟩])
  (.seq (.reg [
    ⟨(some 32), .mv (.t 9), none⟩,
    ⟨(some 33), .bin .lss (.t 32) (.k (.float .f64 0)), none⟩,
    ⟨(some 34), .mv (.t 33), none⟩,
    ⟨(some 35), .mv (.t 9), (some (34, false))⟩,
    ⟨(some 36), .bin .gtr (.t 35) (.k (.float .f64 4652006429231887155)), (some (34, false))⟩,
    ⟨(some 37), .pick (.t 34) (.k (.bool true)) (.t 36), none⟩,
    ⟨(some 38), .mv (.t 37), none⟩,
    ⟨(some 39), .mv (.t 11), (some (38, false))⟩,
    ⟨(some 40), .mv (.t 39), (some (38, false))⟩,
    ⟨(some 41), .mv (.t 10), (some (40, true))⟩,
    ⟨(some 42), .mv (.t 5), (some (40, true))⟩,
    ⟨(some 43), .bin .eql (.t 41) (.t 42), (some (40, true))⟩,
    ⟨(some 44), .pick (.t 40) (.t 43) (.k (.bool false)), (some (38, false))⟩,
    ⟨(some 45), .pick (.t 38) (.k (.bool true)) (.t 44), none⟩,
    ⟨(some 12), .mv (.t 45), none⟩])
  (.seq (.reg [
    ⟨(some 46), .mv (.t 6), none⟩,
    ⟨(some 47), .mv (.t 0), none⟩,
    ⟨(some 48), .call f_ref01_Seconds [(.t 47)], none⟩,
    ⟨(some 49), .call f_ref01_Alike [(.t 46), (.t 48)], none⟩,
    ⟨(some 50), .mv (.t 49), none⟩,
    ⟨(some 51), .mv (.t 8), (some (50, true))⟩,
    ⟨(some 52), .pick (.t 50) (.t 51) (.k (.bool false)), none⟩,
    ⟨(some 53), .mv (.t 52), none⟩,
    ⟨(some 54), .mv (.t 7), (some (53, true))⟩,
    ⟨(some 55), .mv (.t 5), (some (53, true))⟩,
    ⟨(some 56), .bin .eql (.t 54) (.t 55), (some (53, true))⟩,
    ⟨(some 57), .pick (.t 53) (.t 56) (.k (.bool false)), none⟩,
    ⟨(some 58), .mv (.t 57), none⟩,
    ⟨(some 59), .mv (.t 12), (some (58, true))⟩,
    ⟨(some 60), .pick (.t 58) (.t 59) (.k (.bool false)), none⟩,
    ⟨(some 61), .mv (.t 60), none⟩,
    ⟨(some 62), .call f_law02_awake [], (some (61, true))⟩,
    ⟨(some 63), .pick (.t 61) (.t 62) (.k (.bool false)), none⟩,
    ⟨(some 4), .mv (.t 63), none⟩])
  (.ret)))))))))⟩

/-- crossbuck/crossbucklaw02.SecsRise -/
def cc_law02_SecsRise (f_secs_Ticks f_law02_awake : Nat) : CFn := ⟨81, [.tmp 6],
  .seq (.reg [
    ⟨(some 6), .mv (.k (.bool false)), none⟩])
  (.seq (.reg [
    ⟨(some 14), .mv (.t 0), none⟩,
    ⟨(some 15), .call f_secs_Ticks [(.t 14)], none⟩,
    ⟨(some 13), .mv (.t 15), none⟩,
    ⟨(some 16), .ext (.t 13) 0, none⟩,
    ⟨(some 17), .ext (.t 13) 1, none⟩,
    ⟨(some 7), .mv (.t 16), none⟩,
    ⟨(some 8), .mv (.t 17), none⟩])
  (.seq (.reg [
    ⟨(some 19), .mv (.t 1), none⟩,
    ⟨(some 20), .call f_secs_Ticks [(.t 19)], none⟩,
    ⟨(some 18), .mv (.t 20), none⟩,
    ⟨(some 21), .ext (.t 18) 0, none⟩,
    ⟨(some 22), .ext (.t 18) 1, none⟩,
    ⟨(some 9), .mv (.t 21), none⟩,
    ⟨(some 10), .mv (.t 22), none⟩])
  (.seq (.reg [
    ⟨(some 24), .mv (.t 2), none⟩,
    ⟨(some 25), .call f_secs_Ticks [(.t 24)], none⟩,
    ⟨(some 23), .mv (.t 25), none⟩,
    ⟨(some 26), .ext (.t 23) 0, none⟩,
    ⟨(some 27), .ext (.t 23) 1, none⟩,
    ⟨(some 11), .mv (.t 26), none⟩,
    ⟨(some 12), .mv (.t 27), none⟩])
  (.join (.seq (.reg [
     ⟨(some 28), .mv (.t 0), none⟩,
     ⟨(some 29), .mv (.t 1), none⟩,
     ⟨(some 30), .bin .leq (.t 28) (.t 29), none⟩,
     ⟨(some 31), .mv (.t 30), none⟩,
     ⟨(some 32), .mv (.t 1), (some (31, true))⟩,
     ⟨(some 33), .mv (.t 2), (some (31, true))⟩,
     ⟨(some 34), .bin .leq (.t 32) (.t 33), (some (31, true))⟩,
     ⟨(some 35), .pick (.t 31) (.t 34) (.k (.bool false)), none⟩,
     ⟨(some 36), .un .not (.t 35), none⟩])
   (.cond (.t 36) (.seq (.reg [
      ⟨(some 37), .call f_law02_awake [], none⟩,
      ⟨(some 6), .mv (.t 37), none⟩])
    (.ret))
    (.skip)))
  (.seq (.reg [
    ⟨(some 38), .mv (.t 8), none⟩,
    ⟨(some 39), .un .not (.t 38), none⟩,
    ⟨(some 40), .mv (.t 39), none⟩,
    ⟨(some 41), .mv (.t 12), (some (40, false))⟩,
    ⟨(some 42), .un .not (.t 41), (some (40, false))⟩,
    ⟨(some 43), .pick (.t 40) (.k (.bool true)) (.t 42), none⟩,
    ⟨(some 44), .mv (.t 43), none⟩,
    ⟨(some 45), .mv (.t 10), (some (44, false))⟩,
    ⟨(some 46), .pick (.t 44) (.k (.bool true)) (.t 45), none⟩,
    ⟨(some 47), .mv (.t 46), none⟩,
    ⟨(some 48), .mv (.t 8), (some (47, true))⟩,
    ⟨(some 49), .un .not (.t 48), (some (47, true))⟩,
    ⟨(some 50), .mv (.t 49), (some (47, true))⟩,
    ⟨(some 51), .mv (.t 10), (some (50, false))⟩,
    ⟨(some 52), .un .not (.t 51), (some (50, false))⟩,
    ⟨(some 53), .pick (.t 50) (.k (.bool true)) (.t 52), (some (47, true))⟩,
    ⟨(some 54), .mv (.t 53), (some (47, true))⟩,
    ⟨(some 55), .mv (.t 7), (some (54, false))⟩,
    ⟨(some 56), .mv (.t 9), (some (54, false))⟩,
    ⟨(some 57), .bin .leq (.t 55) (.t 56), (some (54, false))⟩,
    ⟨(some 58), .pick (.t 54) (.k (.bool true)) (.t 57), (some (47, true))⟩,
    ⟨(some 59), .pick (.t 47) (.t 58) (.k (.bool false)), none⟩,
    ⟨(some 60), .mv (.t 59), none⟩,
    ⟨(some 61), .mv (.t 8), (some (60, true))⟩,
    ⟨(some 62), .un .not (.t 61), (some (60, true))⟩,
    ⟨(some 63), .mv (.t 62), (some (60, true))⟩,
    ⟨(some 64), .mv (.t 12), (some (63, false))⟩,
    ⟨(some 65), .un .not (.t 64), (some (63, false))⟩,
    ⟨(some 66), .pick (.t 63) (.k (.bool true)) (.t 65), (some (60, true))⟩,
    ⟨(some 67), .mv (.t 66), (some (60, true))⟩,
    ⟨(some 68), .mv (.t 7), (some (67, false))⟩,
    ⟨(some 69), .mv (.t 9), (some (67, false))⟩,
    ⟨(some 70), .bin .leq (.t 68) (.t 69), (some (67, false))⟩,
    ⟨(some 71), .mv (.t 70), (some (67, false))⟩,
    ⟨(some 72), .mv (.t 9), (some (71, true))⟩,
    ⟨(some 73), .mv (.t 11), (some (71, true))⟩,
    ⟨(some 74), .bin .leq (.t 72) (.t 73), (some (71, true))⟩,
    ⟨(some 75), .pick (.t 71) (.t 74) (.k (.bool false)), (some (67, false))⟩,
    ⟨(some 76), .pick (.t 67) (.k (.bool true)) (.t 75), (some (60, true))⟩,
    ⟨(some 77), .pick (.t 60) (.t 76) (.k (.bool false)), none⟩,
    ⟨(some 78), .mv (.t 77), none⟩,
    ⟨(some 79), .call f_law02_awake [], (some (78, true))⟩,
    ⟨(some 80), .pick (.t 78) (.t 79) (.k (.bool false)), none⟩,
    ⟨(some 6), .mv (.t 80), none⟩])
  (.ret))))))⟩

/-- crossbuck/crossbucklaw02.SecsLonger -/
def cc_law02_SecsLonger (f_secs_Longer f_ref01_Longer f_ref01_Alike f_ref01_Nan f_law02_awake : Nat) : CFn := ⟨68, [.tmp 6],
  .seq (.reg [
    ⟨(some 6), .mv (.k (.bool false)), none⟩])
  (.seq (.reg [
    ⟨(some 11), .mv (.t 0), none⟩,
    ⟨(some 12), .mv (.t 1), none⟩,
    ⟨(some 13), .call f_secs_Longer [(.t 11), (.t 12)], none⟩,
    ⟨(some 7), .mv (.t 13), none⟩])
  (.seq (.reg [
    ⟨(some 14), .mv (.t 7), none⟩,
    ⟨(some 15), .mv (.t 0), none⟩,
    ⟨(some 16), .mv (.t 1), none⟩,
    ⟨(some 17), .call f_ref01_Longer [(.t 15), (.t 16)], none⟩,
    ⟨(some 18), .call f_ref01_Alike [(.t 14), (.t 17)], none⟩,
    ⟨(some 19), .mv (.t 18), none⟩,
    ⟨(some 20), .mv (.t 7), (some (19, true))⟩,
    ⟨(some 21), .mv (.t 1), (some (19, true))⟩,
    ⟨(some 22), .mv (.t 0), (some (19, true))⟩,
    ⟨(some 23), .call f_secs_Longer [(.t 21), (.t 22)], (some (19, true))⟩,
    ⟨(some 24), .call f_ref01_Alike [(.t 20), (.t 23)], (some (19, true))⟩,
    ⟨(some 25), .pick (.t 19) (.t 24) (.k (.bool false)), none⟩,
    ⟨(some 8), .mv (.t 25), none⟩])
  (.seq (.reg [
    ⟨(some 26), .mv (.t 7), none⟩,
    ⟨(some 27), .mv (.t 2), none⟩,
    ⟨(some 28), .call f_secs_Longer [(.t 26), (.t 27)], none⟩,
    ⟨(some 29), .mv (.t 0), none⟩,
    ⟨(some 30), .mv (.t 1), none⟩,
    ⟨(some 31), .mv (.t 2), none⟩,
    ⟨(some 32), .call f_secs_Longer [(.t 30), (.t 31)], none⟩,
    ⟨(some 33), .call f_secs_Longer [(.t 29), (.t 32)], none⟩,
    ⟨(some 34), .call f_ref01_Alike [(.t 28), (.t 33)], none⟩,
    ⟨(some 9), .mv (.t 34), none⟩])
  (.seq (.reg [
    ⟨(some 35), .mv (.t 7), none⟩,
    ⟨(some 36), .call f_ref01_Nan [(.t 35)], none⟩,
    ⟨(some 37), .mv (.t 0), none⟩,
    ⟨(some 38), .call f_ref01_Nan [(.t 37)], none⟩,
    ⟨(some 39), .mv (.t 38), none⟩,
    ⟨(some 40), .mv (.t 1), (some (39, false))⟩,
    ⟨(some 41), .call f_ref01_Nan [(.t 40)], (some (39, false))⟩,
    ⟨(some 42), .pick (.t 39) (.k (.bool true)) (.t 41), none⟩,
    ⟨(some 43), .bb false (.t 36) (.t 42), none⟩,
    ⟨(some 10), .mv (.t 43), none⟩])
  (.seq (.reg [
    ⟨(some 44), .mv (.t 8), none⟩,
    ⟨(some 45), .mv (.t 44), none⟩,
    ⟨(some 46), .mv (.t 9), (some (45, true))⟩,
    ⟨(some 47), .pick (.t 45) (.t 46) (.k (.bool false)), none⟩,
    ⟨(some 48), .mv (.t 47), none⟩,
    ⟨(some 49), .mv (.t 10), (some (48, true))⟩,
    ⟨(some 50), .pick (.t 48) (.t 49) (.k (.bool false)), none⟩,
    ⟨(some 51), .mv (.t 50), none⟩,
    ⟨(some 52), .mv (.t 7), (some (51, true))⟩,
    ⟨(some 53), .call f_ref01_Nan [(.t 52)], (some (51, true))⟩,
    ⟨(some 54), .mv (.t 53), (some (51, true))⟩,
    ⟨(some 55), .mv (.t 7), (some (54, false))⟩,
    ⟨(some 56), .mv (.t 0), (some (54, false))⟩,
    ⟨(some 57), .bin .geq (.t 55) (.t 56), (some (54, false))⟩,
    ⟨(some 58), .mv (.t 57), (some (54, false))⟩,
    ⟨(some 59), .mv (.t 7), (some (58, true))⟩,
    ⟨(some 60), .mv (.t 1), (some (58, true))⟩,
    ⟨(some 61), .bin .geq (.t 59) (.t 60), (some (58, true))⟩,
    ⟨(some 62), .pick (.t 58) (.t 61) (.k (.bool false)), (some (54, false))⟩,
    ⟨(some 63), .pick (.t 54) (.k (.bool true)) (.t 62), (some (51, true))⟩,
    ⟨(some 64), .pick (.t 51) (.t 63) (.k (.bool false)), none⟩,
    ⟨(some 65), .mv (.t 64), none⟩,
    ⟨(some 66), .call f_law02_awake [], (some (65, true))⟩,
    ⟨(some 67), .pick (.t 65) (.t 66) (.k (.bool false)), none⟩,
    ⟨(some 6), .mv (.t 67), none⟩])
  (.ret))))))⟩

/-- crossbuck/crossbucklaw02.SecsAll -/
def cc_law02_SecsAll (f_secs_Ticks f_ref01_Ticks f_secs_Clean f_ref01_Clean f_ref01_Alike f_law02_awake : Nat) : CFn := ⟨35, [.tmp 2],
  .seq (.reg [
    ⟨(some 2), .mv (.k (.bool false)), none⟩])
  (.seq (.reg [
    ⟨(some 8), .mv (.t 0), none⟩,
    ⟨(some 9), .call f_secs_Ticks [(.t 8)], none⟩,
    ⟨(some 7), .mv (.t 9), none⟩,
    ⟨(some 10), .ext (.t 7) 0, none⟩,
    ⟨(some 11), .ext (.t 7) 1, none⟩,
    ⟨(some 3), .mv (.t 10), none⟩,
    ⟨(some 4), .mv (.t 11), none⟩])
  (.seq (.reg [
    ⟨(some 13), .mv (.t 0), none⟩,
    ⟨(some 14), .call f_ref01_Ticks [(.t 13)], none⟩,
    ⟨(some 12), .mv (.t 14), none⟩,
    ⟨(some 15), .ext (.t 12) 0, none⟩,
    ⟨(some 16), .ext (.t 12) 1, none⟩,
    ⟨(some 5), .mv (.t 15), none⟩,
    ⟨(some 6), .mv (.t 16), none⟩])
  (.seq (.reg [
    ⟨(some 17), .mv (.t 3), none⟩,
    ⟨(some 18), .mv (.t 5), none⟩,
    ⟨(some 19), .bin .eql (.t 17) (.t 18), none⟩,
    ⟨(some 20), .mv (.t 19), none⟩,
    ⟨(some 21), .mv (.t 4), (some (20, true))⟩,
    ⟨(some 22), .mv (.t 6), (some (20, true))⟩,
    ⟨(some 23), .bb false (.t 21) (.t 22), (some (20, true))⟩,
    ⟨(some 24), .pick (.t 20) (.t 23) (.k (.bool false)), none⟩,
    ⟨(some 25), .mv (.t 24), none⟩,
    ⟨(some 26), .mv (.t 0), (some (25, true))⟩,
    ⟨(some 27), .call f_secs_Clean [(.t 26)], (some (25, true))⟩,
    ⟨(some 28), .mv (.t 0), (some (25, true))⟩,
    ⟨(some 29), .call f_ref01_Clean [(.t 28)], (some (25, true))⟩,
    ⟨(some 30), .call f_ref01_Alike [(.t 27), (.t 29)], (some (25, true))⟩,
    ⟨(some 31), .pick (.t 25) (.t 30) (.k (.bool false)), none⟩,
    ⟨(some 32), .mv (.t 31), none⟩,
    ⟨(some 33), .call f_law02_awake [], (some (32, true))⟩,
    ⟨(some 34), .pick (.t 32) (.t 33) (.k (.bool false)), none⟩,
    ⟨(some 2), .mv (.t 34), none⟩])
  (.ret))))⟩

/-- crossbuck/crossbucklaw02.SecsClean -/
def cc_law02_SecsClean (f_secs_Clean f_secs_Ticks f_ref01_Alike f_secs_Of f_law02_awake : Nat) : CFn := ⟨61, [.tmp 2],
  .seq (.reg [
    ⟨(some 2), .mv (.k (.bool false)), none⟩])
  (.seq (.reg [
    ⟨(some 9), .mv (.t 0), none⟩,
    ⟨(some 10), .call f_secs_Clean [(.t 9)], none⟩,
    ⟨(some 3), .mv (.t 10), none⟩])
  (.seq (.reg [
    ⟨(some 12), .mv (.t 3), none⟩,
    ⟨(some 13), .call f_secs_Ticks [(.t 12)], none⟩,
    ⟨(some 11), .mv (.t 13), none⟩,
    ⟨(some 14), .ext (.t 11) 0, none⟩,
    ⟨(some 15), .ext (.t 11) 1, none⟩,
    ⟨(some 4), .mv (.t 14), none⟩,
    ⟨(some 5), .mv (.t 15), none⟩])
  (.seq (.reg [
    ⟨(some 17), .mv (.t 0), none⟩,
    ⟨(some 18), .call f_secs_Ticks [(.t 17)], none⟩,
    ⟨(some 16), .mv (.t 18), none⟩,
    ⟨(some 19), .ext (.t 16) 0, none⟩,
    ⟨(some 20), .ext (.t 16) 1, none⟩,
    ⟨(some 6), .mv (.t 19), none⟩,
    ⟨(some 7), .mv (.t 20), none⟩])
  (.seq (.reg [
    ⟨(some 21), .mv (.t 7), none⟩,
    ⟨(some 22), .un .not (.t 21), none⟩,
    ⟨(some 23), .mv (.t 22), none⟩,
    ⟨(some 24), .mv (.t 6), (some (23, false))⟩,
    ⟨(some 25), .mv (.t 4), (some (23, false))⟩,
    ⟨(some 26), .bin .eql (.t 24) (.t 25), (some (23, false))⟩,
    ⟨(some 27), .mv (.t 26), (some (23, false))⟩,
    ⟨(some 28), .mv (.t 3), (some (27, true))⟩,
    ⟨(some 29), .mv (.t 0), (some (27, true))⟩,
    ⟨(some 30), .bin .eql (.t 28) (.t 29), (some (27, true))⟩,
    ⟨(some 31), .pick (.t 27) (.t 30) (.k (.bool false)), (some (23, false))⟩,
    ⟨(some 32), .pick (.t 23) (.k (.bool true)) (.t 31), none⟩,
    ⟨(some 8), .mv (.t 32), none⟩])
  (.seq (.reg [
    ⟨(some 33), .mv (.t 5), none⟩,
    ⟨(some 34), .mv (.t 33), none⟩,
    ⟨(some 35), .mv (.t 3), (some (34, true))⟩,
    ⟨(some 36), .bin .geq (.t 35) (.k (.float .f64 0)), (some (34, true))⟩,
    ⟨(some 37), .pick (.t 34) (.t 36) (.k (.bool false)), none⟩,
    ⟨(some 38), .mv (.t 37), none⟩,
    ⟨(some 39), .mv (.t 3), (some (38, true))⟩,
    ⟨(some 40), .bin .leq (.t 39) (.k (.float .f64 4652006429231887155)), (some (38, true))⟩,
    ⟨(some 41), .pick (.t 38) (.t 40) (.k (.bool false)), none⟩,
    ⟨(some 42), .mv (.t 41), none⟩,
    ⟨(some 43), .mv (.t 3), (some (42, true))⟩,
    ⟨(some 44), .call f_secs_Clean [(.t 43)], (some (42, true))⟩,
    ⟨(some 45), .mv (.t 3), (some (42, true))⟩,
    ⟨(some 46), .call f_ref01_Alike [(.t 44), (.t 45)], (some (42, true))⟩,
    ⟨(some 47), .pick (.t 42) (.t 46) (.k (.bool false)), none⟩,
    ⟨(some 48), .mv (.t 47), none⟩,
    ⟨(some 49), .mv (.t 3), (some (48, true))⟩,
    ⟨(some 50), .call f_secs_Of [(.k (.int .i64 0))], (some (48, true))⟩,
    ⟨(some 51), .un .neg (.t 50), (some (48, true))⟩,
    ⟨(some 52), .call f_ref01_Alike [(.t 49), (.t 51)], (some (48, true))⟩,
    ⟨(some 53), .un .not (.t 52), (some (48, true))⟩,
    ⟨(some 54), .pick (.t 48) (.t 53) (.k (.bool false)), none⟩,
    ⟨(some 55), .mv (.t 54), none⟩,
    ⟨(some 56), .mv (.t 8), (some (55, true))⟩,
    ⟨(some 57), .pick (.t 55) (.t 56) (.k (.bool false)), none⟩,
    ⟨(some 58), .mv (.t 57), none⟩,
    ⟨(some 59), .call f_law02_awake [], (some (58, true))⟩,
    ⟨(some 60), .pick (.t 58) (.t 59) (.k (.bool false)), none⟩,
    ⟨(some 2), .mv (.t 60), none⟩])
  (.ret))))))⟩

/-- crossbuck/secs.Of -/
def cc_secs_Of : CFn := ⟨8, [.tmp 2],
  .seq (.reg [
    ⟨(some 2), .mv (.k (.float .f64 0)), none⟩])
  (.seq (.reg [
    ⟨(some 3), .mv (.t 0), none⟩,
    ⟨(some 4), .mm true [(.t 3), (.k (.int .i64 0))], none⟩,
    ⟨(some 5), .mm false [(.t 4), (.k (.int .i64 9999))], none⟩,
    ⟨(some 6), .cvIF .f64 (.t 5), none⟩,
    ⟨(some 7), .bin .quo (.t 6) (.k (.float .f64 4621819117588971520)), none⟩,
    ⟨(some 2), .mv (.t 7), none⟩])
  (.ret))⟩

/-- crossbuck/secs.Ticks -/
def cc_secs_Ticks : CFn := ⟨15, [.tmp 2, .tmp 3],
  .seq (.reg [
    ⟨(some 2), .mv (.k (.int .i64 0)), none⟩,
    ⟨(some 3), .mv (.k (.bool false)), none⟩])
  (.join (.seq (.reg [
     ⟨(some 4), .mv (.t 0), none⟩,
     ⟨(some 5), .bin .geq (.t 4) (.k (.float .f64 0)), none⟩,
     ⟨(some 6), .mv (.t 5), none⟩,
     ⟨(some 7), .mv (.t 0), (some (6, true))⟩,
     ⟨(some 8), .bin .leq (.t 7) (.k (.float .f64 4652006429231887155)), (some (6, true))⟩,
     ⟨(some 9), .pick (.t 6) (.t 8) (.k (.bool false)), none⟩,
     ⟨(some 10), .un .not (.t 9), none⟩])
   (.cond (.t 10) (.seq (.reg [
      ⟨(some 2), .mv (.k (.int .i64 0)), none⟩,
      ⟨(some 3), .mv (.k (.bool false)), none⟩])
    (.ret))
    (.skip)))
  (.seq (.reg [
    ⟨(some 11), .mv (.t 0), none⟩,
    ⟨(some 12), .bin .mul (.k (.float .f64 4621819117588971520)) (.t 11), none⟩,
    ⟨(some 13), .xt .rte (.t 12), none⟩,
    ⟨(some 14), .cvFI .i64 (.t 13), none⟩,
    ⟨(some 2), .mv (.t 14), none⟩,
    ⟨(some 3), .mv (.k (.bool true)), none⟩])
  (.ret)))⟩

/-- crossbuck/crossbuckref01.Alike -/
def cc_ref01_Alike (f_ref01_Nan : Nat) : CFn := ⟨18, [.tmp 4],
  .seq (.reg [
    ⟨(some 4), .mv (.k (.bool false)), none⟩])
  (.seq (.reg [
    ⟨(some 5), .mv (.t 0), none⟩,
    ⟨(some 6), .xt .fbits (.t 5), none⟩,
    ⟨(some 7), .mv (.t 1), none⟩,
    ⟨(some 8), .xt .fbits (.t 7), none⟩,
    ⟨(some 9), .bin .eql (.t 6) (.t 8), none⟩,
    ⟨(some 10), .mv (.t 9), none⟩,
    ⟨(some 11), .mv (.t 0), (some (10, false))⟩,
    ⟨(some 12), .call f_ref01_Nan [(.t 11)], (some (10, false))⟩,
    ⟨(some 13), .mv (.t 12), (some (10, false))⟩,
    ⟨(some 14), .mv (.t 1), (some (13, true))⟩,
    ⟨(some 15), .call f_ref01_Nan [(.t 14)], (some (13, true))⟩,
    ⟨(some 16), .pick (.t 13) (.t 15) (.k (.bool false)), (some (10, false))⟩,
    ⟨(some 17), .pick (.t 10) (.k (.bool true)) (.t 16), none⟩,
    ⟨(some 4), .mv (.t 17), none⟩])
  (.ret))⟩

/-- crossbuck/crossbuckref01.Seconds -/
def cc_ref01_Seconds (f_ref01_Cut : Nat) : CFn := ⟨7, [.tmp 2],
  .seq (.reg [
    ⟨(some 2), .mv (.k (.float .f64 0)), none⟩])
  (.seq (.reg [
    ⟨(some 3), .mv (.t 0), none⟩,
    ⟨(some 4), .call f_ref01_Cut [(.t 3), (.k (.int .i64 0)), (.k (.int .i64 9999))], none⟩,
    ⟨(some 5), .cvIF .f64 (.t 4), none⟩,
    ⟨(some 6), .bin .quo (.t 5) (.k (.float .f64 4621819117588971520)), none⟩,
    ⟨(some 2), .mv (.t 6), none⟩])
  (.ret))⟩

/-- crossbuck/crossbucklaw02.awake -/
def cc_law02_awake (f_secs_Ticks f_secs_Of : Nat) : CFn := ⟨16, [.tmp 0],
  .seq (.reg [
    ⟨(some 0), .mv (.k (.bool false)), none⟩])
  (.seq (.reg [
    ⟨(some 4), .call f_secs_Ticks [(.k (.float .f64 4598175219545276416))], none⟩,
    ⟨(some 3), .mv (.t 4), none⟩,
    ⟨(some 5), .ext (.t 3) 0, none⟩,
    ⟨(some 6), .ext (.t 3) 1, none⟩,
    ⟨(some 1), .mv (.t 5), none⟩,
    ⟨(some 2), .mv (.t 6), none⟩])
  (.seq (.reg [
    ⟨(some 7), .mv (.t 1), none⟩,
    ⟨(some 8), .bin .eql (.t 7) (.k (.int .i64 2)), none⟩,
    ⟨(some 9), .mv (.t 8), none⟩,
    ⟨(some 10), .mv (.t 2), (some (9, true))⟩,
    ⟨(some 11), .pick (.t 9) (.t 10) (.k (.bool false)), none⟩,
    ⟨(some 12), .mv (.t 11), none⟩,
    ⟨(some 13), .call f_secs_Of [(.k (.int .i64 5))], (some (12, true))⟩,
    ⟨(some 14), .bin .eql (.t 13) (.k (.float .f64 4602678819172646912)), (some (12, true))⟩,
    ⟨(some 15), .pick (.t 12) (.t 14) (.k (.bool false)), none⟩,
    ⟨(some 0), .mv (.t 15), none⟩])
  (.ret)))⟩

/-- crossbuck/secs.Longer -/
def cc_secs_Longer : CFn := ⟨8, [.tmp 4],
  .seq (.reg [
    ⟨(some 4), .mv (.k (.float .f64 0)), none⟩])
  (.seq (.reg [
    ⟨(some 5), .mv (.t 0), none⟩,
    ⟨(some 6), .mv (.t 1), none⟩,
    ⟨(some 7), .mm true [(.t 5), (.t 6)], none⟩,
    ⟨(some 4), .mv (.t 7), none⟩])
  (.ret))⟩

/-- crossbuck/crossbuckref01.Longer -/
def cc_ref01_Longer (f_ref01_Nan : Nat) : CFn := ⟨29, [.tmp 4],
  .seq (.reg [
    ⟨(some 4), .mv (.k (.float .f64 0)), none⟩])
  (.join (.block 0 (.seq (.reg [
      ⟨(some 6), .mv (.t 0), none⟩,
      ⟨(some 7), .call f_ref01_Nan [(.t 6)], none⟩,
      ⟨(some 5), .mv (.t 7), none⟩])
    (.cond (.t 5) (.seq (.reg [
       ⟨(some 8), .mv (.t 0), none⟩,
       ⟨(some 4), .mv (.t 8), none⟩])
     (.ret))
     (.seq (.reg [
       ⟨(some 10), .mv (.t 1), none⟩,
       ⟨(some 11), .call f_ref01_Nan [(.t 10)], none⟩,
       ⟨(some 12), .mv (.t 11), none⟩,
       ⟨(some 13), .mv (.t 1), (some (12, false))⟩,
       ⟨(some 14), .mv (.t 0), (some (12, false))⟩,
       ⟨(some 15), .bin .gtr (.t 13) (.t 14), (some (12, false))⟩,
       ⟨(some 16), .pick (.t 12) (.k (.bool true)) (.t 15), none⟩,
       ⟨(some 9), .mv (.t 16), none⟩])
     (.cond (.t 9) (.seq (.reg [
        ⟨(some 17), .mv (.t 1), none⟩,
        ⟨(some 4), .mv (.t 17), none⟩])
      (.ret))
      (.seq (.reg [
        ⟨(some 19), .mv (.t 0), none⟩,
        ⟨(some 20), .mv (.t 1), none⟩,
        ⟨(some 21), .bin .gtr (.t 19) (.t 20), none⟩,
        ⟨(some 18), .mv (.t 21), none⟩])
      (.cond (.t 18) (.seq (.reg [
         ⟨(some 22), .mv (.t 0), none⟩,
         ⟨(some 4), .mv (.t 22), none⟩])
       (.ret))
       (.skip))))))))
  (.seq (.reg [
    ⟨(some 23), .mv (.t 0), none⟩,
    ⟨(some 24), .xt .fbits (.t 23), none⟩,
    ⟨(some 25), .mv (.t 1), none⟩,
    ⟨(some 26), .xt .fbits (.t 25), none⟩,
    ⟨(some 27), .bin .and (.t 24) (.t 26), none⟩,
    ⟨(some 28), .xt .ffrom (.t 27), none⟩,
    ⟨(some 4), .mv (.t 28), none⟩])
  (.ret)))⟩

/-- crossbuck/crossbuckref01.Nan -/
def cc_ref01_Nan : CFn := ⟨6, [.tmp 2],
  .seq (.reg [
    ⟨(some 2), .mv (.k (.bool false)), none⟩])
  (.seq (.reg [
    ⟨(some 3), .mv (.t 0), none⟩,
    ⟨(some 4), .mv (.t 0), none⟩,
    ⟨(some 5), .bin .neq (.t 3) (.t 4), none⟩,
    ⟨(some 2), .mv (.t 5), none⟩])
  (.ret))⟩

/-- crossbuck/crossbuckref01.Ticks -/
def cc_ref01_Ticks : CFn := ⟨36, [.tmp 2, .tmp 3],
  .seq (.reg [
    ⟨(some 2), .mv (.k (.int .i64 0)), none⟩,
    ⟨(some 3), .mv (.k (.bool false)), none⟩])
  (.join (.seq (.reg [
     ⟨(some 7), .mv (.t 0), none⟩,
     ⟨(some 8), .bin .geq (.t 7) (.k (.float .f64 0)), none⟩,
     ⟨(some 9), .mv (.t 8), none⟩,
     ⟨(some 10), .mv (.t 0), (some (9, true))⟩,
     ⟨(some 11), .bin .leq (.t 10) (.k (.float .f64 4652006429231887155)), (some (9, true))⟩,
     ⟨(some 12), .pick (.t 9) (.t 11) (.k (.bool false)), none⟩,
     ⟨(some 13), .un .not (.t 12), none⟩])
   (.cond (.t 13) (.seq (.reg [
      ⟨(some 2), .mv (.k (.int .i64 0)), none⟩,
      ⟨(some 3), .mv (.k (.bool false)), none⟩])
    (.ret))
    (.skip)))
  (.seq (.reg [
    ⟨(some 14), .mv (.t 0), none⟩,
    ⟨(some 15), .bin .mul (.t 14) (.k (.float .f64 4621819117588971520)), none⟩,
    ⟨(some 4), .mv (.t 15), none⟩])
  (.seq (.reg [
    ⟨(some 16), .mv (.t 4), none⟩,
    ⟨(some 17), .cvFI .i64 (.t 16), none⟩,
    ⟨(some 5), .mv (.t 17), none⟩])
  (.seq (.reg [
    ⟨(some 18), .mv (.t 4), none⟩,
    ⟨(some 19), .mv (.t 5), none⟩,
    ⟨(some 20), .cvIF .f64 (.t 19), none⟩,
    ⟨(some 21), .bin .sub (.t 18) (.t 20), none⟩,
    ⟨(some 6), .mv (.t 21), none⟩])
  (.join (.seq (.reg [
     ⟨(some 22), .mv (.t 6), none⟩,
     ⟨(some 23), .bin .gtr (.t 22) (.k (.float .f64 4602678819172646912)), none⟩,
     ⟨(some 24), .mv (.t 23), none⟩,
     ⟨(some 25), .mv (.t 6), (some (24, false))⟩,
     ⟨(some 26), .bin .eql (.t 25) (.k (.float .f64 4602678819172646912)), (some (24, false))⟩,
     ⟨(some 27), .mv (.t 26), (some (24, false))⟩,
     ⟨(some 28), .mv (.t 5), (some (27, true))⟩,
     ⟨(some 29), .bin .rem (.t 28) (.k (.int .i64 2)), (some (27, true))⟩,
     ⟨(some 30), .bin .eql (.t 29) (.k (.int .i64 1)), (some (27, true))⟩,
     ⟨(some 31), .pick (.t 27) (.t 30) (.k (.bool false)), (some (24, false))⟩,
     ⟨(some 32), .pick (.t 24) (.k (.bool true)) (.t 31), none⟩])
   (.cond (.t 32) (.reg [
      ⟨(some 33), .mv (.t 5), none⟩,
      ⟨(some 34), .bin .add (.t 33) (.k (.int .i64 1)), none⟩,
      ⟨(some 5), .mv (.t 34), none⟩])
    (.skip)))
  (.seq (.reg [
    ⟨(some 35), .mv (.t 5), none⟩,
    ⟨(some 2), .mv (.t 35), none⟩,
    ⟨(some 3), .mv (.k (.bool true)), none⟩])
  (.ret)))))))⟩

/-- crossbuck/secs.Clean -/
def cc_secs_Clean : CFn := ⟨11, [.tmp 2],
  .seq (.reg [
    ⟨(some 2), .mv (.k (.float .f64 0)), none⟩])
  (.join (.block 0 (.seq (.reg [
      ⟨(some 4), .mv (.t 0), none⟩,
      ⟨(some 5), .bin .gtr (.t 4) (.k (.float .f64 0)), none⟩,
      ⟨(some 6), .un .not (.t 5), none⟩,
      ⟨(some 3), .mv (.t 6), none⟩])
    (.cond (.t 3) (.seq (.reg [
       ⟨(some 2), .mv (.k (.float .f64 0)), none⟩])
     (.ret))
     (.seq (.reg [
       ⟨(some 8), .mv (.t 0), none⟩,
       ⟨(some 9), .bin .gtr (.t 8) (.k (.float .f64 4652006429231887155)), none⟩,
       ⟨(some 7), .mv (.t 9), none⟩])
     (.cond (.t 7) (.seq (.reg [
        ⟨(some 2), .mv (.k (.float .f64 4652006429231887155)), none⟩])
      (.ret))
      (.skip))))))
  (.seq (.reg [
    ⟨(some 10), .mv (.t 0), none⟩,
    ⟨(some 2), .mv (.t 10), none⟩])
  (.ret)))⟩

/-- crossbuck/crossbuckref01.Clean -/
def cc_ref01_Clean : CFn := ⟨10, [.tmp 2],
  .seq (.reg [
    ⟨(some 2), .mv (.k (.float .f64 0)), none⟩])
  (.join (.block 0 (.seq (.reg [
      ⟨(some 4), .mv (.t 0), none⟩,
      ⟨(some 5), .bin .gtr (.t 4) (.k (.float .f64 4652006429231887155)), none⟩,
      ⟨(some 3), .mv (.t 5), none⟩])
    (.cond (.t 3) (.seq (.reg [
       ⟨(some 2), .mv (.k (.float .f64 4652006429231887155)), none⟩])
     (.ret))
     (.seq (.reg [
       ⟨(some 7), .mv (.t 0), none⟩,
       ⟨(some 8), .bin .gtr (.t 7) (.k (.float .f64 0)), none⟩,
       ⟨(some 6), .mv (.t 8), none⟩])
     (.cond (.t 6) (.seq (.reg [
        ⟨(some 9), .mv (.t 0), none⟩,
        ⟨(some 2), .mv (.t 9), none⟩])
      (.ret))
      (.skip))))))
  (.seq (.reg [
    ⟨(some 2), .mv (.k (.float .f64 0)), none⟩])
  (.ret)))⟩


end Go.Eng
