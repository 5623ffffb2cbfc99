/- The engine and the library,part 8 of 9: what the proofs of this seat need of them. -/
import Derived.Test.YtobofgkfhjlneaaPk7
set_option linter.unnecessarySimpa false
set_option linter.unusedSimpArgs false
set_option linter.unusedVariables false
set_option linter.defProp false
set_option maxRecDepth 10000
set_option maxHeartbeats 4000000
namespace Go.Eng
open Go
section
open Z
def dA (g0 g1 g2 g3 g4 g5 g6:Nat):gK:=⟨48,[.tmp 8],r [V 8 (F)] (j (r [M 13 0,o 14 (h 13),o 15 (bb .gtr 14 (i 100))] (c 15 (r [o 16 (.call g0 []),M 8 16] y) z)) (r [M 17 0,o 18 (.app g1 1 1 (k .bf) (t 17)),M 9 18] (r [M 19 0,M 20 1,M 21 2,o 22 (.call g2 [t 19,t 20,t 21]),M 10 22] (r [M 23 0,M 24 3,o 25 (.call g3 [t 23,t 24]),M 11 25] (r [M 26 10,M 27 0,M 28 1,M 29 2,o 30 (.call g4 [t 27,t 28,t 29]),o 31 (.call g5 [t 26,t 30]),M 32 31,p 33 (m 11) 32,p 34 (m 0) 32,p 35 (m 3) 32,p 36 (.call g6 [t 34,t 35]) 32,p 37 (.call g5 [t 33,t 36]) 32,o 38 (P 32 37),M 12 38] (r [M 39 12,M 40 39,p 41 (m 0) 40,p 42 (m 9) 40,p 43 (.call g5 [t 41,t 42]) 40,o 44 (P 40 43),M 45 44,p 46 (.call g0 []) 45,o 47 (P 45 46),M 8 47] y))))))⟩
def dB (f_law05_awake f_wire_New f_law00_Place f_wire_Reader_Num f_wire_Reader_Fault f_wire_Reader_At f_wire_Reader_Float f_wire_Reader_Bool f_wire_Reader_Left:Nat):gK:=⟨132,[.tmp 8],
  .seq (.aB [
    ⟨(some 8),.o (.mv (.k (.bool false))),none⟩])
  (.join (.seq (.aB [
     ⟨(some 15),.o (.mv (.t 0)),none⟩,
     ⟨(some 16),.o (.dM (.t 15)),none⟩,
     ⟨(some 17),.o (.bin .gtr (.t 16) (.k (.int .i64 60))),none⟩])
   (.cond (.t 17) (.seq (.aB [
      ⟨(some 18),.call f_law05_awake [],none⟩,
      ⟨(some 8),.o (.mv (.t 18)),none⟩])
    (.ret))
    (.skip)))
  (.seq (.aB [
    ⟨(some 19),.o (.mv (.t 0)),none⟩,
    ⟨(some 20),.call f_wire_New [(.t 19)],none⟩,
    ⟨(some 9),.o (.mv (.t 20)),none⟩])
  (.join (.seq (.aB [
     ⟨(some 21),.o (.mv (.t 9)),none⟩,
     ⟨(some 22),.uK false (.t 21),none⟩])
   (.cond (.t 22) (.seq (.aB [
      ⟨(some 8),.o (.mv (.k (.bool false))),none⟩])
    (.ret))
    (.skip)))
  (.seq (.aB [
    ⟨(some 23),.o (.mv (.t 1)),none⟩,
    ⟨(some 24),.call f_law00_Place [(.t 23),(.k (.int .i64 8))],none⟩,
    ⟨(some 10),.o (.mv (.t 24)),none⟩])
  (.seq (.aB [
    ⟨(some 25),.o (.mv (.t 9)),none⟩,
    ⟨(some 26),.o (.mv (.t 10)),none⟩,
    ⟨(some 27),.o (.mv (.t 2)),none⟩,
    ⟨(some 28),.o (.mv (.t 3)),none⟩,
    ⟨(some 29),.aI f_wire_Reader_Num [(.t 25),(.t 26),(.t 27),(.t 28)],none⟩,
    ⟨(some 11),.o (.mv (.t 29)),none⟩])
  (.seq (.aB [
    ⟨(some 30),.o (.mv (.t 9)),none⟩,
    ⟨(some 31),.aI f_wire_Reader_Fault [(.t 30)],none⟩,
    ⟨(some 12),.o (.alloc [(.int .i64 0),(.int .i64 0)]),none⟩,
    ⟨none,.o (.st (.t 12) (.t 31) 2),none⟩])
  (.join (.seq (.aB [
     ⟨(some 32),.o (.fa (.t 12) 0),none⟩,
     ⟨(some 33),.o (.ld (.t 32) none),none⟩,
     ⟨(some 34),.o (.bin .eql (.t 33) (.k (.int .i64 0))),none⟩])
   (.cond (.t 34) (.seq (.aB [
      ⟨(some 35),.o (.mv (.t 11)),none⟩,
      ⟨(some 36),.o (.mv (.t 2)),none⟩,
      ⟨(some 37),.o (.bin .geq (.t 35) (.t 36)),none⟩,
      ⟨(some 38),.o (.mv (.t 37)),none⟩,
      ⟨(some 39),.o (.mv (.t 11)),(some (38,true))⟩,
      ⟨(some 40),.o (.mv (.t 3)),(some (38,true))⟩,
      ⟨(some 41),.o (.bin .leq (.t 39) (.t 40)),(some (38,true))⟩,
      ⟨(some 42),.o (.pick (.t 38) (.t 41) (.k (.bool false))),none⟩,
      ⟨(some 43),.o (.mv (.t 42)),none⟩,
      ⟨(some 44),.o (.mv (.t 9)),(some (43,true))⟩,
      ⟨(some 45),.aI f_wire_Reader_At [(.t 44)],(some (43,true))⟩,
      ⟨(some 46),.o (.mv (.t 10)),(some (43,true))⟩,
      ⟨(some 47),.o (.bin .eql (.t 45) (.t 46)),(some (43,true))⟩,
      ⟨(some 48),.o (.pick (.t 43) (.t 47) (.k (.bool false))),none⟩,
      ⟨(some 49),.o (.mv (.t 48)),none⟩,
      ⟨(some 50),.o (.mv (.t 0)),(some (49,true))⟩,
      ⟨(some 51),.o (.dM (.t 50)),(some (49,true))⟩,
      ⟨(some 52),.o (.mv (.t 10)),(some (49,true))⟩,
      ⟨(some 53),.o (.bin .geq (.t 51) (.t 52)),(some (49,true))⟩,
      ⟨(some 54),.o (.pick (.t 49) (.t 53) (.k (.bool false))),none⟩,
      ⟨(some 55),.o (.mv (.t 54)),none⟩,
      ⟨(some 56),.call f_law05_awake [],(some (55,true))⟩,
      ⟨(some 57),.o (.pick (.t 55) (.t 56) (.k (.bool false))),none⟩,
      ⟨(some 8),.o (.mv (.t 57)),none⟩])
    (.ret))
    (.skip)))
  (.seq (.aB [
    ⟨(some 58),.o (.fa (.t 12) 0),none⟩,
    ⟨(some 59),.o (.ld (.t 58) none),none⟩,
    ⟨(some 60),.o (.bin .eql (.t 59) (.k (.int .i64 2))),none⟩,
    ⟨(some 61),.o (.mv (.t 60)),none⟩,
    ⟨(some 62),.o (.fa (.t 12) 1),(some (61,true))⟩,
    ⟨(some 63),.o (.ld (.t 62) none),(some (61,true))⟩,
    ⟨(some 64),.o (.mv (.t 0)),(some (61,true))⟩,
    ⟨(some 65),.o (.dM (.t 64)),(some (61,true))⟩,
    ⟨(some 66),.o (.bin .eql (.t 63) (.t 65)),(some (61,true))⟩,
    ⟨(some 67),.o (.pick (.t 61) (.t 66) (.k (.bool false))),none⟩,
    ⟨(some 68),.o (.mv (.t 67)),none⟩,
    ⟨(some 69),.o (.mv (.t 0)),(some (68,true))⟩,
    ⟨(some 70),.o (.dM (.t 69)),(some (68,true))⟩,
    ⟨(some 71),.o (.mv (.t 10)),(some (68,true))⟩,
    ⟨(some 72),.o (.bin .lss (.t 70) (.t 71)),(some (68,true))⟩,
    ⟨(some 73),.o (.pick (.t 68) (.t 72) (.k (.bool false))),none⟩,
    ⟨(some 74),.o (.mv (.t 73)),none⟩,
    ⟨(some 75),.o (.fa (.t 12) 0),(some (74,false))⟩,
    ⟨(some 76),.o (.ld (.t 75) none),(some (74,false))⟩,
    ⟨(some 77),.o (.bin .eql (.t 76) (.k (.int .i64 4))),(some (74,false))⟩,
    ⟨(some 78),.o (.mv (.t 77)),(some (74,false))⟩,
    ⟨(some 79),.o (.fa (.t 12) 1),(some (78,true))⟩,
    ⟨(some 80),.o (.ld (.t 79) none),(some (78,true))⟩,
    ⟨(some 81),.o (.bin .eql (.t 80) (.k (.int .i64 0))),(some (78,true))⟩,
    ⟨(some 82),.o (.pick (.t 78) (.t 81) (.k (.bool false))),(some (74,false))⟩,
    ⟨(some 83),.o (.mv (.t 82)),(some (74,false))⟩,
    ⟨(some 84),.o (.mv (.t 0)),(some (83,true))⟩,
    ⟨(some 85),.o (.dM (.t 84)),(some (83,true))⟩,
    ⟨(some 86),.o (.mv (.t 10)),(some (83,true))⟩,
    ⟨(some 87),.o (.bin .geq (.t 85) (.t 86)),(some (83,true))⟩,
    ⟨(some 88),.o (.pick (.t 83) (.t 87) (.k (.bool false))),(some (74,false))⟩,
    ⟨(some 89),.o (.pick (.t 74) (.k (.bool true)) (.t 88)),none⟩,
    ⟨(some 13),.o (.mv (.t 89)),none⟩])
  (.seq (.aB [
    ⟨(some 90),.o (.mv (.t 11)),none⟩,
    ⟨(some 91),.o (.bin .eql (.t 90) (.k (.int .i64 0))),none⟩,
    ⟨(some 92),.o (.mv (.t 91)),none⟩,
    ⟨(some 93),.o (.mv (.t 9)),(some (92,true))⟩,
    ⟨(some 94),.aI f_wire_Reader_Num [(.t 93),(.k (.int .i64 1)),(.k (.int .i64 0)),(.k (.int .i64 255))],(some (92,true))⟩,
    ⟨(some 95),.o (.bin .eql (.t 94) (.k (.int .i64 0))),(some (92,true))⟩,
    ⟨(some 96),.o (.pick (.t 92) (.t 95) (.k (.bool false))),none⟩,
    ⟨(some 97),.o (.mv (.t 96)),none⟩,
    ⟨(some 98),.o (.mv (.t 9)),(some (97,true))⟩,
    ⟨(some 99),.aI f_wire_Reader_Float [(.t 98)],(some (97,true))⟩,
    ⟨(some 100),.o (.bin .eql (.t 99) (.k (.float .f64 0))),(some (97,true))⟩,
    ⟨(some 101),.o (.pick (.t 97) (.t 100) (.k (.bool false))),none⟩,
    ⟨(some 102),.o (.mv (.t 101)),none⟩,
    ⟨(some 103),.o (.mv (.t 9)),(some (102,true))⟩,
    ⟨(some 104),.aI f_wire_Reader_Bool [(.t 103)],(some (102,true))⟩,
    ⟨(some 105),.o (.un .not (.t 104)),(some (102,true))⟩,
    ⟨(some 106),.o (.pick (.t 102) (.t 105) (.k (.bool false))),none⟩,
    ⟨(some 107),.o (.mv (.t 106)),none⟩,
    ⟨(some 108),.o (.mv (.t 9)),(some (107,true))⟩,
    ⟨(some 109),.aI f_wire_Reader_At [(.t 108)],(some (107,true))⟩,
    ⟨(some 110),.o (.bin .eql (.t 109) (.k (.int .i64 0))),(some (107,true))⟩,
    ⟨(some 111),.o (.pick (.t 107) (.t 110) (.k (.bool false))),none⟩,
    ⟨(some 112),.o (.mv (.t 111)),none⟩,
    ⟨(some 113),.o (.mv (.t 9)),(some (112,true))⟩,
    ⟨(some 114),.aI f_wire_Reader_Left [(.t 113)],(some (112,true))⟩,
    ⟨(some 115),.o (.mv (.t 0)),(some (112,true))⟩,
    ⟨(some 116),.o (.dM (.t 115)),(some (112,true))⟩,
    ⟨(some 117),.o (.bin .eql (.t 114) (.t 116)),(some (112,true))⟩,
    ⟨(some 118),.o (.pick (.t 112) (.t 117) (.k (.bool false))),none⟩,
    ⟨(some 14),.o (.mv (.t 118)),none⟩])
  (.seq (.lC [
    ⟨(some 119),.mv (.t 13),none⟩,
    ⟨(some 120),.mv (.t 119),none⟩,
    ⟨(some 121),.mv (.t 14),(some (120,true))⟩,
    ⟨(some 122),.pick (.t 120) (.t 121) (.k (.bool false)),none⟩,
    ⟨(some 123),.mv (.t 122),none⟩,
    ⟨(some 124),.mv (.t 9),(some (123,true))⟩,
    ⟨(some 125),.aI f_wire_Reader_Fault [(.t 124)],(some (123,true))⟩,
    ⟨(some 126),.ld (.t 12) (some 2),(some (123,true))⟩,
    ⟨(some 127),.eqc [.i,.i] false (.t 125) (.t 126),(some (123,true))⟩,
    ⟨(some 128),.pick (.t 123) (.t 127) (.k (.bool false)),none⟩,
    ⟨(some 129),.mv (.t 128),none⟩,
    ⟨(some 130),.call f_law05_awake [],(some (129,true))⟩,
    ⟨(some 131),.pick (.t 129) (.t 130) (.k (.bool false)),none⟩,
    ⟨(some 8),.mv (.t 131),none⟩] [(6,7)])
  (.ret)))))))))))⟩
def cX (f_law05_awake f_wire_New f_wire_Reader_Num f_ref05_Reader_Num f_wire_Reader_Float f_ref05_Reader_Float f_ref01_Alike f_wire_Reader_Bool f_ref05_Reader_Bool f_wire_Reader_At f_wire_Reader_Left f_wire_Reader_Fault:Nat):gK:=⟨114,[.tmp 4],
  .seq (.aB [
    ⟨(some 4),.o (.mv (.k (.bool false))),none⟩])
  (.join (.seq (.aB [
     ⟨(some 8),.o (.mv (.t 0)),none⟩,
     ⟨(some 9),.o (.dM (.t 8)),none⟩,
     ⟨(some 10),.o (.bin .gtr (.t 9) (.k (.int .i64 200))),none⟩,
     ⟨(some 11),.o (.mv (.t 10)),none⟩,
     ⟨(some 12),.o (.mv (.t 1)),(some (11,false))⟩,
     ⟨(some 13),.o (.dM (.t 12)),(some (11,false))⟩,
     ⟨(some 14),.o (.bin .gtr (.t 13) (.k (.int .i64 40))),(some (11,false))⟩,
     ⟨(some 15),.o (.pick (.t 11) (.k (.bool true)) (.t 14)),none⟩])
   (.cond (.t 15) (.seq (.aB [
      ⟨(some 16),.call f_law05_awake [],none⟩,
      ⟨(some 4),.o (.mv (.t 16)),none⟩])
    (.ret))
    (.skip)))
  (.seq (.aB [
    ⟨(some 17),.o (.mv (.t 0)),none⟩,
    ⟨(some 18),.call f_wire_New [(.t 17)],none⟩,
    ⟨(some 5),.o (.mv (.t 18)),none⟩])
  (.seq (.aB [
    ⟨(some 19),.o (.mv (.t 0)),none⟩,
    ⟨(some 20),.o (.build [.bf,(.int .i64 0),(.int .i64 0),(.int .i64 0)] [(0,1,(.t 19))]),none⟩,
    ⟨(some 21),.o (.box (.t 20)),none⟩,
    ⟨(some 6),.o (.mv (.t 21)),none⟩])
  (.join (.seq (.aB [
     ⟨(some 22),.o (.mv (.t 5)),none⟩,
     ⟨(some 23),.uK false (.t 22),none⟩])
   (.cond (.t 23) (.seq (.aB [
      ⟨(some 4),.o (.mv (.k (.bool false))),none⟩])
    (.ret))
    (.skip)))
  (.join (.seq (.aB [
     ⟨(some 7),.o (.mv (.k (.int .i64 0))),none⟩])
   (.block 0 (.loop (.join (.seq (.aB [
        ⟨(some 24),.o (.mv (.t 7)),none⟩,
        ⟨(some 25),.o (.mv (.t 1)),none⟩,
        ⟨(some 26),.o (.dM (.t 25)),none⟩,
        ⟨(some 27),.o (.bin .lss (.t 24) (.t 26)),none⟩])
      (.cond (.t 27) (.skip)
       (.exit 0)))
     (.join (.block 1 (.join (.seq (.aB [
          ⟨(some 30),.o (.mv (.t 1)),none⟩,
          ⟨(some 31),.o (.mv (.t 7)),none⟩,
          ⟨(some 32),.o (.nA (.t 30) (.t 31) 4),none⟩,
          ⟨(some 33),.o (.fa (.t 32) 0),none⟩,
          ⟨(some 34),.o (.ld (.t 33) none),none⟩])
        (.block 2 (.seq (.aB [
           ⟨(some 41),.o (.bin .eql (.t 34) (.k (.int .i64 1))),none⟩,
           ⟨(some 40),.o (.mv (.t 41)),none⟩])
         (.cond (.t 40) (.seq (.lC [
            ⟨(some 42),.mv (.t 5),none⟩,
            ⟨(some 43),.mv (.t 1),none⟩,
            ⟨(some 44),.mv (.t 7),none⟩,
            ⟨(some 45),.nA (.t 43) (.t 44) 4,none⟩,
            ⟨(some 46),.fa (.t 45) 1,none⟩,
            ⟨(some 47),.ld (.t 46) none,none⟩,
            ⟨(some 48),.mv (.t 1),none⟩,
            ⟨(some 49),.mv (.t 7),none⟩,
            ⟨(some 50),.nA (.t 48) (.t 49) 4,none⟩,
            ⟨(some 51),.fa (.t 50) 2,none⟩,
            ⟨(some 52),.ld (.t 51) none,none⟩,
            ⟨(some 53),.mv (.t 1),none⟩,
            ⟨(some 54),.mv (.t 7),none⟩,
            ⟨(some 55),.nA (.t 53) (.t 54) 4,none⟩,
            ⟨(some 56),.fa (.t 55) 3,none⟩,
            ⟨(some 57),.ld (.t 56) none,none⟩,
            ⟨(some 58),.aI f_wire_Reader_Num [(.t 42),(.t 47),(.t 52),(.t 57)],none⟩,
            ⟨(some 59),.mv (.t 6),none⟩,
            ⟨(some 60),.mv (.t 1),none⟩,
            ⟨(some 61),.mv (.t 7),none⟩,
            ⟨(some 62),.nA (.t 60) (.t 61) 4,none⟩,
            ⟨(some 63),.fa (.t 62) 1,none⟩,
            ⟨(some 64),.ld (.t 63) none,none⟩,
            ⟨(some 65),.mv (.t 1),none⟩,
            ⟨(some 66),.mv (.t 7),none⟩,
            ⟨(some 67),.nA (.t 65) (.t 66) 4,none⟩,
            ⟨(some 68),.fa (.t 67) 2,none⟩,
            ⟨(some 69),.ld (.t 68) none,none⟩,
            ⟨(some 70),.mv (.t 1),none⟩,
            ⟨(some 71),.mv (.t 7),none⟩,
            ⟨(some 72),.nA (.t 70) (.t 71) 4,none⟩,
            ⟨(some 73),.fa (.t 72) 3,none⟩,
            ⟨(some 74),.ld (.t 73) none,none⟩,
            ⟨(some 75),.aI f_ref05_Reader_Num [(.t 59),(.t 64),(.t 69),(.t 74)],none⟩,
            ⟨(some 76),.bin .neq (.t 58) (.t 75),none⟩] [(16,22),(16,27),(16,32)])
          (.cond (.t 76) (.seq (.aB [
             ⟨(some 4),.o (.mv (.k (.bool false))),none⟩])
           (.ret))
           (.skip)))
          (.seq (.aB [
            ⟨(some 78),.o (.bin .eql (.t 34) (.k (.int .i64 2))),none⟩,
            ⟨(some 77),.o (.mv (.t 78)),none⟩])
          (.cond (.t 77) (.seq (.aB [
             ⟨(some 79),.o (.mv (.t 5)),none⟩,
             ⟨(some 80),.aI f_wire_Reader_Float [(.t 79)],none⟩,
             ⟨(some 81),.o (.mv (.t 6)),none⟩,
             ⟨(some 82),.aI f_ref05_Reader_Float [(.t 81)],none⟩,
             ⟨(some 83),.call f_ref01_Alike [(.t 80),(.t 82)],none⟩,
             ⟨(some 84),.o (.un .not (.t 83)),none⟩])
           (.cond (.t 84) (.seq (.aB [
              ⟨(some 4),.o (.mv (.k (.bool false))),none⟩])
            (.ret))
            (.skip)))
           (.seq (.aB [
             ⟨(some 35),.o (.mv (.t 5)),none⟩,
             ⟨(some 36),.aI f_wire_Reader_Bool [(.t 35)],none⟩,
             ⟨(some 37),.o (.mv (.t 6)),none⟩,
             ⟨(some 38),.aI f_ref05_Reader_Bool [(.t 37)],none⟩,
             ⟨(some 39),.o (.bb true (.t 36) (.t 38)),none⟩])
           (.cond (.t 39) (.seq (.aB [
              ⟨(some 4),.o (.mv (.k (.bool false))),none⟩])
            (.ret))
            (.skip)))))))))
       (.seq (.lC [
         ⟨(some 85),.mv (.t 5),none⟩,
         ⟨(some 86),.aI f_wire_Reader_At [(.t 85)],none⟩,
         ⟨(some 87),.mv (.t 6),none⟩,
         ⟨(some 88),.nc (.t 87),none⟩,
         ⟨(some 89),.fa (.t 88) 1,none⟩,
         ⟨(some 90),.ld (.t 89) none,none⟩,
         ⟨(some 91),.bin .neq (.t 86) (.t 90),none⟩,
         ⟨(some 92),.mv (.t 91),none⟩,
         ⟨(some 93),.mv (.t 5),(some (92,false))⟩,
         ⟨(some 94),.aI f_wire_Reader_Left [(.t 93)],(some (92,false))⟩,
         ⟨(some 95),.mv (.t 0),(some (92,false))⟩,
         ⟨(some 96),.dM (.t 95),(some (92,false))⟩,
         ⟨(some 97),.mv (.t 6),(some (92,false))⟩,
         ⟨(some 98),.nc (.t 97),(some (92,false))⟩,
         ⟨(some 99),.fa (.t 98) 1,(some (92,false))⟩,
         ⟨(some 100),.ld (.t 99) none,(some (92,false))⟩,
         ⟨(some 101),.bin .sub (.t 96) (.t 100),(some (92,false))⟩,
         ⟨(some 102),.bin .neq (.t 94) (.t 101),(some (92,false))⟩,
         ⟨(some 103),.pick (.t 92) (.k (.bool true)) (.t 102),none⟩,
         ⟨(some 104),.mv (.t 103),none⟩,
         ⟨(some 105),.mv (.t 5),(some (104,false))⟩,
         ⟨(some 106),.aI f_wire_Reader_Fault [(.t 105)],(some (104,false))⟩,
         ⟨(some 107),.mv (.t 6),(some (104,false))⟩,
         ⟨(some 108),.nc (.t 107),(some (104,false))⟩,
         ⟨(some 109),.fa (.t 108) 2,(some (104,false))⟩,
         ⟨(some 110),.ld (.t 109) (some 2),(some (104,false))⟩,
         ⟨(some 111),.eqc [.i,.i] true (.t 106) (.t 110),(some (104,false))⟩,
         ⟨(some 112),.pick (.t 104) (.k (.bool true)) (.t 111),none⟩] [(1,5),(1,21),(1,25),(5,9),(5,21),(9,15),(15,21),(21,25)])
       (.cond (.t 112) (.seq (.aB [
          ⟨(some 4),.o (.mv (.k (.bool false))),none⟩])
        (.ret))
        (.skip)))))
     (.aB [
       ⟨(some 28),.o (.mv (.t 7)),none⟩,
       ⟨(some 29),.o (.bin .add (.t 28) (.k (.int .i64 1))),none⟩,
       ⟨(some 7),.o (.mv (.t 29)),none⟩]))))))
  (.seq (.aB [
    ⟨(some 113),.call f_law05_awake [],none⟩,
    ⟨(some 4),.o (.mv (.t 113)),none⟩])
  (.ret)))))))⟩
def dD (f_law05_awake f_wire_Put f_wire_PutFloat f_wire_New f_wire_Reader_Num f_wire_Reader_Float f_ref01_Alike f_wire_Reader_Left f_wire_Reader_Fault:Nat):gK:=⟨104,[.tmp 4],
  .seq (.aB [
    ⟨(some 4),.o (.mv (.k (.bool false))),none⟩])
  (.join (.seq (.aB [
     ⟨(some 12),.o (.mv (.t 0)),none⟩,
     ⟨(some 13),.o (.dM (.t 12)),none⟩,
     ⟨(some 14),.o (.bin .gtr (.t 13) (.k (.int .i64 20))),none⟩,
     ⟨(some 15),.o (.mv (.t 14)),none⟩,
     ⟨(some 16),.o (.mv (.t 1)),(some (15,false))⟩,
     ⟨(some 17),.o (.dM (.t 16)),(some (15,false))⟩,
     ⟨(some 18),.o (.bin .gtr (.t 17) (.k (.int .i64 20))),(some (15,false))⟩,
     ⟨(some 19),.o (.pick (.t 15) (.k (.bool true)) (.t 18)),none⟩])
   (.cond (.t 19) (.seq (.aB [
      ⟨(some 20),.call f_law05_awake [],none⟩,
      ⟨(some 4),.o (.mv (.t 20)),none⟩])
    (.ret))
    (.skip)))
  (.seq (.aB [
    ⟨(some 5),.o (.mv (.k .bf)),none⟩])
  (.join (.seq (.aB [
     ⟨(some 6),.o (.mv (.k (.int .i64 0))),none⟩])
   (.block 0 (.loop (.join (.seq (.aB [
        ⟨(some 21),.o (.mv (.t 6)),none⟩,
        ⟨(some 22),.o (.mv (.t 0)),none⟩,
        ⟨(some 23),.o (.dM (.t 22)),none⟩,
        ⟨(some 24),.o (.bin .lss (.t 21) (.t 23)),none⟩])
      (.cond (.t 24) (.skip)
       (.exit 0)))
     (.join (.block 1 (.aB [
         ⟨(some 27),.o (.mv (.t 5)),none⟩,
         ⟨(some 28),.o (.mv (.t 6)),none⟩,
         ⟨(some 29),.o (.bin .rem (.t 28) (.k (.int .i64 7))),none⟩,
         ⟨(some 30),.o (.bin .add (.k (.int .i64 1)) (.t 29)),none⟩,
         ⟨(some 31),.o (.mv (.t 0)),none⟩,
         ⟨(some 32),.o (.mv (.t 6)),none⟩,
         ⟨(some 33),.o (.nA (.t 31) (.t 32) 1),none⟩,
         ⟨(some 34),.o (.ld (.t 33) none),none⟩,
         ⟨(some 35),.call f_wire_Put [(.t 27),(.t 30),(.t 34)],none⟩,
         ⟨(some 5),.o (.mv (.t 35)),none⟩]))
     (.aB [
       ⟨(some 25),.o (.mv (.t 6)),none⟩,
       ⟨(some 26),.o (.bin .add (.t 25) (.k (.int .i64 1))),none⟩,
       ⟨(some 6),.o (.mv (.t 26)),none⟩]))))))
  (.join (.seq (.aB [
     ⟨(some 7),.o (.mv (.k (.int .i64 0))),none⟩])
   (.block 2 (.loop (.join (.seq (.aB [
        ⟨(some 36),.o (.mv (.t 7)),none⟩,
        ⟨(some 37),.o (.mv (.t 1)),none⟩,
        ⟨(some 38),.o (.dM (.t 37)),none⟩,
        ⟨(some 39),.o (.bin .lss (.t 36) (.t 38)),none⟩])
      (.cond (.t 39) (.skip)
       (.exit 2)))
     (.join (.block 3 (.aB [
         ⟨(some 42),.o (.mv (.t 5)),none⟩,
         ⟨(some 43),.o (.mv (.t 1)),none⟩,
         ⟨(some 44),.o (.mv (.t 7)),none⟩,
         ⟨(some 45),.o (.nA (.t 43) (.t 44) 1),none⟩,
         ⟨(some 46),.o (.ld (.t 45) none),none⟩,
         ⟨(some 47),.call f_wire_PutFloat [(.t 42),(.t 46)],none⟩,
         ⟨(some 5),.o (.mv (.t 47)),none⟩]))
     (.aB [
       ⟨(some 40),.o (.mv (.t 7)),none⟩,
       ⟨(some 41),.o (.bin .add (.t 40) (.k (.int .i64 1))),none⟩,
       ⟨(some 7),.o (.mv (.t 41)),none⟩]))))))
  (.seq (.aB [
    ⟨(some 48),.o (.mv (.t 5)),none⟩,
    ⟨(some 49),.call f_wire_New [(.t 48)],none⟩,
    ⟨(some 8),.o (.mv (.t 49)),none⟩])
  (.join (.seq (.aB [
     ⟨(some 50),.o (.mv (.t 8)),none⟩,
     ⟨(some 51),.uK false (.t 50),none⟩])
   (.cond (.t 51) (.seq (.aB [
      ⟨(some 4),.o (.mv (.k (.bool false))),none⟩])
    (.ret))
    (.skip)))
  (.join (.seq (.aB [
     ⟨(some 9),.o (.mv (.k (.int .i64 0))),none⟩])
   (.block 4 (.loop (.join (.seq (.aB [
        ⟨(some 52),.o (.mv (.t 9)),none⟩,
        ⟨(some 53),.o (.mv (.t 0)),none⟩,
        ⟨(some 54),.o (.dM (.t 53)),none⟩,
        ⟨(some 55),.o (.bin .lss (.t 52) (.t 54)),none⟩])
      (.cond (.t 55) (.skip)
       (.exit 4)))
     (.join (.block 5 (.seq (.aB [
         ⟨(some 58),.o (.mv (.t 9)),none⟩,
         ⟨(some 59),.o (.bin .rem (.t 58) (.k (.int .i64 7))),none⟩,
         ⟨(some 60),.o (.bin .add (.k (.int .i64 1)) (.t 59)),none⟩,
         ⟨(some 61),.o (.bin .mul (.k (.int .i64 8)) (.t 60)),none⟩,
         ⟨(some 62),.o (.gB .u64 (.t 61)),none⟩,
         ⟨(some 63),.o (.bin .shl (.k (.int .i64 1)) (.t 62)),none⟩,
         ⟨(some 64),.o (.bin .sub (.t 63) (.k (.int .i64 1))),none⟩,
         ⟨(some 10),.o (.mv (.t 64)),none⟩])
       (.seq (.lC [
         ⟨(some 65),.mv (.t 8),none⟩,
         ⟨(some 66),.mv (.t 9),none⟩,
         ⟨(some 67),.bin .rem (.t 66) (.k (.int .i64 7)),none⟩,
         ⟨(some 68),.bin .add (.k (.int .i64 1)) (.t 67),none⟩,
         ⟨(some 69),.mv (.t 10),none⟩,
         ⟨(some 70),.aI f_wire_Reader_Num [(.t 65),(.t 68),(.k (.int .i64 0)),(.t 69)],none⟩,
         ⟨(some 71),.mv (.t 0),none⟩,
         ⟨(some 72),.mv (.t 9),none⟩,
         ⟨(some 73),.nA (.t 71) (.t 72) 1,none⟩,
         ⟨(some 74),.ld (.t 73) none,none⟩,
         ⟨(some 75),.mv (.t 10),none⟩,
         ⟨(some 76),.bin .and (.t 74) (.t 75),none⟩,
         ⟨(some 77),.bin .neq (.t 70) (.t 76),none⟩] [(5,9)])
       (.cond (.t 77) (.seq (.aB [
          ⟨(some 4),.o (.mv (.k (.bool false))),none⟩])
        (.ret))
        (.skip)))))
     (.aB [
       ⟨(some 56),.o (.mv (.t 9)),none⟩,
       ⟨(some 57),.o (.bin .add (.t 56) (.k (.int .i64 1))),none⟩,
       ⟨(some 9),.o (.mv (.t 57)),none⟩]))))))
  (.join (.seq (.aB [
     ⟨(some 11),.o (.mv (.k (.int .i64 0))),none⟩])
   (.block 6 (.loop (.join (.seq (.aB [
        ⟨(some 78),.o (.mv (.t 11)),none⟩,
        ⟨(some 79),.o (.mv (.t 1)),none⟩,
        ⟨(some 80),.o (.dM (.t 79)),none⟩,
        ⟨(some 81),.o (.bin .lss (.t 78) (.t 80)),none⟩])
      (.cond (.t 81) (.skip)
       (.exit 6)))
     (.join (.block 7 (.seq (.lC [
         ⟨(some 84),.mv (.t 8),none⟩,
         ⟨(some 85),.aI f_wire_Reader_Float [(.t 84)],none⟩,
         ⟨(some 86),.mv (.t 1),none⟩,
         ⟨(some 87),.mv (.t 11),none⟩,
         ⟨(some 88),.nA (.t 86) (.t 87) 1,none⟩,
         ⟨(some 89),.ld (.t 88) none,none⟩,
         ⟨(some 90),.call f_ref01_Alike [(.t 85),(.t 89)],none⟩,
         ⟨(some 91),.un .not (.t 90),none⟩] [(1,5)])
       (.cond (.t 91) (.seq (.aB [
          ⟨(some 4),.o (.mv (.k (.bool false))),none⟩])
        (.ret))
        (.skip))))
     (.aB [
       ⟨(some 82),.o (.mv (.t 11)),none⟩,
       ⟨(some 83),.o (.bin .add (.t 82) (.k (.int .i64 1))),none⟩,
       ⟨(some 11),.o (.mv (.t 83)),none⟩]))))))
  (.seq (.aB [
    ⟨(some 92),.o (.mv (.t 8)),none⟩,
    ⟨(some 93),.aI f_wire_Reader_Left [(.t 92)],none⟩,
    ⟨(some 94),.o (.bin .eql (.t 93) (.k (.int .i64 0))),none⟩,
    ⟨(some 95),.o (.mv (.t 94)),none⟩,
    ⟨(some 96),.o (.mv (.t 8)),(some (95,true))⟩,
    ⟨(some 97),.aI f_wire_Reader_Fault [(.t 96)],(some (95,true))⟩,
    ⟨(some 98),.o (.Ar (.t 97) 0 none),(some (95,true))⟩,
    ⟨(some 99),.o (.bin .eql (.t 98) (.k (.int .i64 0))),(some (95,true))⟩,
    ⟨(some 100),.o (.pick (.t 95) (.t 99) (.k (.bool false))),none⟩,
    ⟨(some 101),.o (.mv (.t 100)),none⟩,
    ⟨(some 102),.call f_law05_awake [],(some (101,true))⟩,
    ⟨(some 103),.o (.pick (.t 101) (.t 102) (.k (.bool false))),none⟩,
    ⟨(some 4),.o (.mv (.t 103)),none⟩])
  (.ret))))))))))⟩
def eM (e_uint8 f_wire_New f_wire_Reader_Num f_wire_Reader_At f_wire_Put:Nat):gK:=⟨21,[.tmp 0],
 .seq (.aB [
  ⟨(some 0),.o (.mv (.k (.bool false))),none⟩])
 (.seq (.aB [
  ⟨(some 2),.o (.uH e_uint8 1 [(.k (.int .u8 1)),(.k (.int .u8 2))]),none⟩,
  ⟨(some 3),.call f_wire_New [(.t 2)],none⟩,
  ⟨(some 1),.o (.mv (.t 3)),none⟩])
 (.seq (.aB [
  ⟨(some 4),.o (.mv (.t 1)),none⟩,
  ⟨(some 5),.uK true (.t 4),none⟩,
  ⟨(some 6),.o (.mv (.t 5)),none⟩,
  ⟨(some 7),.o (.mv (.t 1)),(some (6,true))⟩,
  ⟨(some 8),.aI f_wire_Reader_Num [(.t 7),(.k (.int .i64 2)),(.k (.int .i64 0)),(.k (.int .i64 300))],(some (6,true))⟩,
  ⟨(some 9),.o (.bin .eql (.t 8) (.k (.int .i64 258))),(some (6,true))⟩,
  ⟨(some 10),.o (.pick (.t 6) (.t 9) (.k (.bool false))),none⟩,
  ⟨(some 11),.o (.mv (.t 10)),none⟩,
  ⟨(some 12),.o (.mv (.t 1)),(some (11,true))⟩,
  ⟨(some 13),.aI f_wire_Reader_At [(.t 12)],(some (11,true))⟩,
  ⟨(some 14),.o (.bin .eql (.t 13) (.k (.int .i64 2))),(some (11,true))⟩,
  ⟨(some 15),.o (.pick (.t 11) (.t 14) (.k (.bool false))),none⟩,
  ⟨(some 16),.o (.mv (.t 15)),none⟩,
  ⟨(some 17),.call f_wire_Put [(.k .bf),(.k (.int .i64 2)),(.k (.int .i64 258))],(some (16,true))⟩,
  ⟨(some 18),.o (.dM (.t 17)),(some (16,true))⟩,
  ⟨(some 19),.o (.bin .eql (.t 18) (.k (.int .i64 2))),(some (16,true))⟩,
  ⟨(some 20),.o (.pick (.t 16) (.t 19) (.k (.bool false))),none⟩,
  ⟨(some 0),.o (.mv (.t 20)),none⟩])
 (.ret)))⟩
def g8 (e_uint8:Nat):gK:=⟨37,[.tmp 6],
  .seq (.aB [
    ⟨(some 6),.o (.mv (.k .bf)),none⟩])
  (.seq (.aB [
    ⟨(some 9),.o (.mv (.t 1)),none⟩,
    ⟨(some 10),.o (.mm true [(.t 9),(.k (.int .i64 0))]),none⟩,
    ⟨(some 11),.o (.mm false [(.t 10),(.k (.int .i64 8))]),none⟩,
    ⟨(some 1),.o (.mv (.t 11)),none⟩])
  (.seq (.aB [
    ⟨(some 12),.o (.mv (.t 0)),none⟩,
    ⟨(some 13),.o (.dM (.t 12)),none⟩,
    ⟨(some 14),.o (.mv (.t 0)),none⟩,
    ⟨(some 15),.o (.dM (.t 14)),none⟩,
    ⟨(some 16),.o (.mv (.t 1)),none⟩,
    ⟨(some 17),.o (.bin .add (.t 15) (.t 16)),none⟩,
    ⟨(some 18),.AQ e_uint8 1 (.t 13) (.t 17),none⟩,
    ⟨(some 7),.o (.mv (.t 18)),none⟩])
  (.seq (.aB [
    ⟨(some 19),.o (.mv (.t 7)),none⟩,
    ⟨(some 20),.o (.mv (.t 0)),none⟩,
    ⟨(some 21),.AR e_uint8 (.t 19) (.t 20),none⟩])
  (.join (.seq (.aB [
     ⟨(some 22),.o (.mv (.t 1)),none⟩,
     ⟨(some 23),.o (.bin .sub (.t 22) (.k (.int .i64 1))),none⟩,
     ⟨(some 8),.o (.mv (.t 23)),none⟩])
   (.block 0 (.loop (.join (.seq (.aB [
        ⟨(some 24),.o (.mv (.t 8)),none⟩,
        ⟨(some 25),.o (.bin .geq (.t 24) (.k (.int .i64 0))),none⟩])
      (.cond (.t 25) (.skip)
       (.exit 0)))
     (.join (.block 1 (.aB [
         ⟨(some 28),.o (.mv (.t 7)),none⟩,
         ⟨(some 29),.o (.mv (.t 2)),none⟩,
         ⟨(some 30),.o (.mv (.t 8)),none⟩,
         ⟨(some 31),.o (.bin .mul (.k (.int .i64 8)) (.t 30)),none⟩,
         ⟨(some 32),.o (.bin .shr (.t 29) (.t 31)),none⟩,
         ⟨(some 33),.o (.gB .u8 (.t 32)),none⟩,
         ⟨(some 34),.o (.uH e_uint8 1 [(.t 33)]),none⟩,
         ⟨(some 35),.o (.app e_uint8 1 1 (.t 28) (.t 34)),none⟩,
         ⟨(some 7),.o (.mv (.t 35)),none⟩]))
     (.aB [
       ⟨(some 26),.o (.mv (.t 8)),none⟩,
       ⟨(some 27),.o (.bin .sub (.t 26) (.k (.int .i64 1))),none⟩,
       ⟨(some 8),.o (.mv (.t 27)),none⟩]))))))
  (.seq (.aB [
    ⟨(some 36),.o (.mv (.t 7)),none⟩,
    ⟨(some 6),.o (.mv (.t 36)),none⟩])
  (.ret))))))⟩
def dQ (g0:Nat):gK:=⟨10,[.tmp 4],r [V 4 .bf] (r [M 5 0,M 6 1,o 7 (.xt .lA (t 6)),o 8 (.gB .i64 (t 7)),o 9 (.call g0 [t 5,k (i 8),t 8]),M 4 9] y)⟩
def cY:gK:=⟨26,[.tmp 4],r [V 4 (F)] (j (r [M 6 0,o 7 (h 6),M 8 1,o 9 (h 8),o 10 (b .neq 7 9)] (c 10 (r [V 4 (F)] y) z)) (j (r [V 5 (i 0)] (u 0 (.loop (j (r [M 11 5,M 12 0,o 13 (h 12),o 14 (b .lss 11 13)] (c 14 z (.exit 0))) (j (u 1 (r [M 17 0,M 18 5,o 19 (a 17 18 1),o 20 (l 19),M 21 1,M 22 5,o 23 (a 21 22 1),o 24 (l 23),o 25 (b .neq 20 24)] (c 25 (r [V 4 (F)] y) z))) (R [M 15 5,o 16 (bb .add 15 (i 1)),M 5 16])))))) (r [V 4 (T)] y)))⟩
def gq (g0 g1:Nat):gK:=⟨28,[.tmp 6],r [V 6 .bf] (r [M 9 0,o 10 (.app g0 1 1 (k .bf) (t 9)),M 7 10] (j (r [M 11 1,o 12 (.call g1 [t 11,k (i 0),k (i 8)]),o 13 (bb .sub 12 (i 1)),M 8 13] (u 0 (.loop (j (r [M 14 8,o 15 (bb .geq 14 (i 0))] (c 15 z (.exit 0))) (j (u 1 (R [M 18 7,M 19 2,M 20 8,o 21 (.bin .mul (k (i 8)) (t 20)),o 22 (.gB .u64 (t 21)),o 23 (b .shr 19 22),o 24 (.gB .u8 (t 23)),o 25 (.uH g0 1 [t 24]),o 26 (.app g0 1 1 (t 18) (t 25)),M 7 26])) (R [M 16 8,o 17 (bb .sub 16 (i 1)),M 8 17])))))) (r [M 27 7,M 6 27] y)))⟩
def dF (g0:Nat):gK:=⟨10,[.tmp 4],r [V 4 .bf] (r [M 5 0,M 6 1,o 7 (.xt .lA (t 6)),o 8 (.gB .i64 (t 7)),o 9 (.call g0 [t 5,k (i 8),t 8]),M 4 9] y)⟩
def g9 (g0:Nat):gK:=⟨7,[.tmp 2],r [V 2 .jS] (r [M 3 0,o 4 (.call g0 [t 3]),o 5 (.build [.bf,i 0,i 0,i 0] [(0,1,t 4)]),o 6 (w 5),M 2 6] y)⟩
def bI (f_wire_Reader_Num_1 f_wire_Reader_whole f_wire_Reader_fails:Nat):mK:=⟨40,[.cell 8 none],
  .aB [
    ⟨(some 8),.o (.alloc [(.int .i64 0)]),none⟩],f_wire_Reader_Num_1,[(.t 8)],9,
  .seq (.aB [
    ⟨(some 10),.o (.mv (.t 1)),none⟩,
    ⟨(some 11),.o (.mm true [(.t 10),(.k (.int .i64 0))]),none⟩,
    ⟨(some 12),.o (.mm false [(.t 11),(.k (.int .i64 7))]),none⟩,
    ⟨(some 1),.o (.mv (.t 12)),none⟩])
  (.seq (.aB [
    ⟨(some 13),.o (.mv (.t 0)),none⟩,
    ⟨(some 14),.o (.mv (.t 1)),none⟩,
    ⟨(some 15),.aI f_wire_Reader_whole [(.t 13),(.t 14)],none⟩,
    ⟨(some 16),.o (.gB .i64 (.t 15)),none⟩,
    ⟨none,.o (.st (.t 8) (.t 16) 1),none⟩])
  (.join (.seq (.aB [
     ⟨(some 17),.o (.ld (.t 8) none),none⟩,
     ⟨(some 18),.o (.mv (.t 2)),none⟩,
     ⟨(some 19),.o (.bin .lss (.t 17) (.t 18)),none⟩,
     ⟨(some 20),.o (.mv (.t 19)),none⟩,
     ⟨(some 21),.o (.ld (.t 8) none),(some (20,false))⟩,
     ⟨(some 22),.o (.mv (.t 3)),(some (20,false))⟩,
     ⟨(some 23),.o (.bin .gtr (.t 21) (.t 22)),(some (20,false))⟩,
     ⟨(some 24),.o (.pick (.t 20) (.k (.bool true)) (.t 23)),none⟩])
   (.cond (.t 24) (.aB [
      ⟨(some 25),.o (.mv (.t 0)),none⟩,
      ⟨(some 26),.o (.mv (.t 0)),none⟩,
      ⟨(some 27),.o (.nc (.t 26)),none⟩,
      ⟨(some 28),.o (.fa (.t 27) 1),none⟩,
      ⟨(some 29),.o (.ld (.t 28) none),none⟩,
      ⟨(some 30),.aI f_wire_Reader_fails [(.t 25),(.k (.int .i64 4)),(.t 29)],none⟩])
    (.skip)))
  (.seq (.aB [
    ⟨(some 31),.o (.mv (.t 0)),none⟩,
    ⟨(some 32),.o (.nc (.t 31)),none⟩,
    ⟨(some 33),.o (.fa (.t 32) 1),none⟩,
    ⟨(some 34),.o (.ld (.t 33) none),none⟩,
    ⟨(some 35),.o (.mv (.t 1)),none⟩,
    ⟨(some 36),.o (.bin .add (.t 34) (.t 35)),none⟩,
    ⟨(some 37),.o (.nc (.t 31)),none⟩,
    ⟨(some 38),.o (.fa (.t 37) 1),none⟩,
    ⟨none,.o (.st (.t 38) (.t 36) 1),none⟩])
  (.seq (.aB [
    ⟨(some 39),.o (.ld (.t 8) none),none⟩,
    ⟨none,.o (.st (.t 8) (.t 39) 1),none⟩])
  (.ret)))))⟩
def cz:gK:=⟨7,[.cell 2 (some 2)],r [o 2 (.alloc [i 0,i 0])] (r [M 3 0,o 4 (.nc (t 3)),o 5 (f 4 2),o 6 (L 5 2),n (s 2 6 2)] y)⟩
def dG:gK:=⟨7,[.tmp 2],r [V 2 (i 0)] (r [M 3 0,o 4 (.nc (t 3)),o 5 (f 4 1),o 6 (l 5),M 2 6] y)⟩
def bM (f_wire_Reader_Float_1 f_wire_Reader_whole:Nat):mK:=⟨15,[.cell 2 none],
 .aB [
  ⟨(some 2),.o (.alloc [(.float .f64 0)]),none⟩],f_wire_Reader_Float_1,[(.t 2)],3,
 .seq (.aB [
  ⟨(some 4),.o (.mv (.t 0)),none⟩,
  ⟨(some 5),.aI f_wire_Reader_whole [(.t 4),(.k (.int .i64 8))],none⟩,
  ⟨(some 6),.o (.xt .ffrom (.t 5)),none⟩,
  ⟨none,.o (.st (.t 2) (.t 6) 1),none⟩])
 (.seq (.aB [
  ⟨(some 7),.o (.mv (.t 0)),none⟩,
  ⟨(some 8),.o (.nc (.t 7)),none⟩,
  ⟨(some 9),.o (.fa (.t 8) 1),none⟩,
  ⟨(some 10),.o (.ld (.t 9) none),none⟩,
  ⟨(some 11),.o (.bin .add (.t 10) (.k (.int .i64 8))),none⟩,
  ⟨(some 12),.o (.nc (.t 7)),none⟩,
  ⟨(some 13),.o (.fa (.t 12) 1),none⟩,
  ⟨none,.o (.st (.t 13) (.t 11) 1),none⟩])
 (.seq (.aB [
  ⟨(some 14),.o (.ld (.t 2) none),none⟩,
  ⟨none,.o (.st (.t 2) (.t 14) 1),none⟩])
 (.ret)))⟩
def cM (g0:Nat):gK:=⟨6,[.tmp 2],r [V 2 (F)] (r [M 3 0,o 4 (.aI g0 [t 3,k (i 1),k (i 0),k (i 1)]),o 5 (bb .eql 4 (i 1)),M 2 5] y)⟩
def cN:gK:=⟨13,[.tmp 2],r [V 2 (i 0)] (r [M 3 0,o 4 (.nc (t 3)),o 5 (f 4 0),o 6 (l 5),o 7 (h 6),M 8 0,o 9 (.nc (t 8)),o 10 (f 9 1),o 11 (l 10),o 12 (b .sub 7 11),M 2 12] y)⟩
def bn (g0 g1 g2:Nat):gK:=⟨53,[.tmp 8],r [V 8 (i 0)] (j (r [M 11 0,o 12 (.aI g0 [t 11]),o 13 (.un .not (t 12))] (c 13 (r [V 8 (i 0)] y) z)) (r [M 14 1,o 15 (.call g1 [t 14,k (i 0),k (i 7)]),M 9 15] (r [M 16 0,M 17 9,o 18 (.aI g2 [t 16,t 17]),o 19 (.gB .i64 (t 18)),M 10 19] (j (r [M 20 0,o 21 (.aI g0 [t 20]),M 22 21,p 23 (m 10) 22,p 24 (m 2) 22,p 25 (b .lss 23 24) 22,p 26 (m 25) 22,q 27 (m 10) 26,q 28 (m 3) 26,q 29 (b .gtr 27 28) 26,p 30 (Q 26 29) 22,o 31 (P 22 30)] (c 31 (R [M 32 0,M 33 0,o 34 (.nc (t 33)),o 35 (f 34 1),o 36 (l 35),o 37 (.build [i 0,i 0] [(0,1,k (i 4)),(1,1,t 36)]),o 38 (.nc (t 32)),o 39 (f 38 2),n (s 39 37 2)]) z)) (j (r [M 40 0,o 41 (.aI g0 [t 40]),o 42 (.un .not (t 41))] (c 42 (r [V 8 (i 0)] y) z)) (r [M 43 0,M 44 0,o 45 (.nc (t 44)),o 46 (f 45 1),o 47 (l 46),M 48 9,o 49 (b .add 47 48),o 50 (.nc (t 43)),o 51 (f 50 1),n (s 51 49 1)] (r [M 52 10,M 8 52] y)))))))⟩
def bq (g0 g1:Nat):gK:=⟨22,[.tmp 2],r [V 2 (.float .f64 0)] (j (r [M 4 0,o 5 (.aI g0 [t 4]),o 6 (.un .not (t 5))] (c 6 (r [V 2 (.float .f64 0)] y) z)) (r [M 7 0,o 8 (.aI g1 [t 7,k (i 8)]),M 3 8] (j (r [M 9 0,o 10 (.aI g0 [t 9]),o 11 (.un .not (t 10))] (c 11 (r [V 2 (.float .f64 0)] y) z)) (r [M 12 0,M 13 0,o 14 (.nc (t 13)),o 15 (f 14 1),o 16 (l 15),o 17 (bb .add 16 (i 8)),o 18 (.nc (t 12)),o 19 (f 18 1),n (s 19 17 1)] (r [M 20 3,o 21 (.xt .ffrom (t 20)),M 2 21] y)))))⟩
def cA (g0:Nat):gK:=⟨6,[.tmp 2],r [V 2 (F)] (r [M 3 0,o 4 (.aI g0 [t 3,k (i 1),k (i 0),k (i 1)]),o 5 (bb .eql 4 (i 1)),M 2 5] y)⟩
def bp (g0:Nat):gK:=⟨8,[.tmp 2],r [V 2 .bf] (j (r [M 3 0,o 4 (.xh false (t 3))] (c 4 (r [V 2 .bf] y) z)) (r [o 5 (.uH g0 1 []),M 6 0,o 7 (.app g0 1 1 (t 5) (t 6)),M 2 7] y))⟩
def bN (e_api_Fault:Nat):uA:=⟨9,4,[
    ⟨(some 5),.As e_api_Fault (.agg [(.int .i64 0),(.int .i64 0)]) (.t 4),none⟩,
    ⟨(some 3),.o (.mv (.t 5)),none⟩,
    ⟨(some 6),.o (.ext (.t 3) 0),none⟩,
    ⟨(some 7),.o (.ext (.t 3) 1),none⟩,
    ⟨(some 1),.o (.alloc [(.int .i64 0),(.int .i64 0)]),none⟩,
    ⟨none,.o (.st (.t 1) (.t 6) 2),none⟩,
    ⟨(some 2),.o (.mv (.t 7)),none⟩],
  .seq (.aB [
    ⟨(some 8),.o (.mv (.t 2)),none⟩])
  (.cond (.t 8) (.aB [
     ⟨none,.o (.st (.t 0) (.k (.int .i64 0)) 1),none⟩])
   (.skip))⟩
def bO (f_wire_Reader_next:Nat):gK:=⟨23,[.tmp 4],
  .seq (.aB [
    ⟨(some 4),.o (.mv (.k (.int .u64 0))),none⟩])
  (.seq (.aB [
    ⟨(some 5),.o (.mv (.k (.int .u64 0))),none⟩])
  (.join (.seq (.aB [
     ⟨(some 8),.o (.mv (.t 0)),none⟩,
     ⟨(some 9),.o (.mv (.t 1)),none⟩,
     ⟨(some 10),.aI f_wire_Reader_next [(.t 8),(.t 9)],none⟩,
     ⟨(some 11),.o (.dM (.t 10)),none⟩,
     ⟨(some 12),.o (.mv (.k (.int .i64 0))),none⟩])
   (.block 0 (.loop (.seq (.aB [
       ⟨(some 13),.o (.bin .lss (.t 12) (.t 11)),none⟩])
     (.join (.cond (.t 13) (.skip)
       (.exit 0))
     (.join (.block 1 (.seq (.aB [
         ⟨(some 14),.o (.nA (.t 10) (.t 12) 1),none⟩,
         ⟨(some 15),.o (.ld (.t 14) none),none⟩,
         ⟨(some 7),.o (.mv (.t 15)),none⟩])
       (.aB [
         ⟨(some 16),.o (.mv (.t 5)),none⟩,
         ⟨(some 17),.o (.bin .shl (.t 16) (.k (.int .u64 8))),none⟩,
         ⟨(some 18),.o (.mv (.t 7)),none⟩,
         ⟨(some 19),.o (.gB .u64 (.t 18)),none⟩,
         ⟨(some 20),.o (.bin .or (.t 17) (.t 19)),none⟩,
         ⟨(some 5),.o (.mv (.t 20)),none⟩])))
     (.aB [
       ⟨(some 21),.o (.bin .add (.t 12) (.k (.int .i64 1))),none⟩,
       ⟨(some 12),.o (.mv (.t 21)),none⟩])))))))
  (.seq (.aB [
    ⟨(some 22),.o (.mv (.t 5)),none⟩,
    ⟨(some 4),.o (.mv (.t 22)),none⟩])
  (.ret))))⟩
def cB (e_api_Fault:Nat):gK:=⟨23,[],
  .join (.seq (.aB [
     ⟨(some 6),.o (.mv (.t 0)),none⟩,
     ⟨(some 7),.o (.nc (.t 6)),none⟩,
     ⟨(some 8),.o (.fa (.t 7) 2),none⟩,
     ⟨(some 9),.o (.fa (.t 8) 0),none⟩,
     ⟨(some 10),.o (.ld (.t 9) none),none⟩,
     ⟨(some 11),.o (.bin .eql (.t 10) (.k (.int .i64 0))),none⟩])
   (.cond (.t 11) (.aB [
      ⟨(some 12),.o (.mv (.t 0)),none⟩,
      ⟨(some 13),.o (.mv (.t 1)),none⟩,
      ⟨(some 14),.o (.mv (.t 2)),none⟩,
      ⟨(some 15),.o (.build [(.int .i64 0),(.int .i64 0)] [(0,1,(.t 13)),(1,1,(.t 14))]),none⟩,
      ⟨(some 16),.o (.nc (.t 12)),none⟩,
      ⟨(some 17),.o (.fa (.t 16) 2),none⟩,
      ⟨none,.o (.st (.t 17) (.t 15) 2),none⟩])
    (.skip)))
  (.aB [
    ⟨(some 18),.o (.mv (.t 0)),none⟩,
    ⟨(some 19),.o (.nc (.t 18)),none⟩,
    ⟨(some 20),.o (.fa (.t 19) 2),none⟩,
    ⟨(some 21),.o (.ld (.t 20) (some 2)),none⟩,
    ⟨(some 22),.AO e_api_Fault (.t 21),none⟩,
    ⟨none,.AN (.t 22),none⟩])⟩
def bD (e_api_Fault:Nat):uA:=⟨9,4,[
    ⟨(some 5),.As e_api_Fault (.agg [(.int .i64 0),(.int .i64 0)]) (.t 4),none⟩,
    ⟨(some 3),.o (.mv (.t 5)),none⟩,
    ⟨(some 6),.o (.ext (.t 3) 0),none⟩,
    ⟨(some 7),.o (.ext (.t 3) 1),none⟩,
    ⟨(some 1),.o (.alloc [(.int .i64 0),(.int .i64 0)]),none⟩,
    ⟨none,.o (.st (.t 1) (.t 6) 2),none⟩,
    ⟨(some 2),.o (.mv (.t 7)),none⟩],
  .seq (.aB [
    ⟨(some 8),.o (.mv (.t 2)),none⟩])
  (.cond (.t 8) (.aB [
     ⟨none,.o (.st (.t 0) (.k (.float .f64 0)) 1),none⟩])
   (.skip))⟩
def cZ:gK:=⟨9,[.tmp 2],r [V 2 (F)] (r [M 3 0,o 4 (.nc (t 3)),o 5 (f 4 2),o 6 (f 5 0),o 7 (l 6),o 8 (bb .eql 7 (i 0)),M 2 8] y)⟩
def cC:gK:=⟨50,[.tmp 4],r [V 4 (.int .u64 0)] (j (r [M 7 0,o 8 (.nc (t 7)),o 9 (f 8 0),o 10 (l 9),o 11 (h 10),M 12 0,o 13 (.nc (t 12)),o 14 (f 13 1),o 15 (l 14),o 16 (b .sub 11 15),M 17 1,o 18 (b .lss 16 17)] (c 18 (r [M 19 0,M 20 0,o 21 (.nc (t 20)),o 22 (f 21 0),o 23 (l 22),o 24 (h 23),o 25 (.build [i 0,i 0] [(0,1,k (i 2)),(1,1,t 24)]),o 26 (.nc (t 19)),o 27 (f 26 2),n (s 27 25 2)] (r [V 4 (.int .u64 0)] y)) z)) (r [V 5 (.int .u64 0)] (j (r [V 6 (i 0)] (u 0 (.loop (j (r [M 28 6,M 29 1,o 30 (b .lss 28 29)] (c 30 z (.exit 0))) (j (u 1 (R [M 33 5,o 34 (bb .shl 33 (.int .u64 8)),M 35 0,o 36 (.nc (t 35)),o 37 (f 36 0),o 38 (l 37),M 39 0,o 40 (.nc (t 39)),o 41 (f 40 1),o 42 (l 41),M 43 6,o 44 (b .add 42 43),o 45 (a 38 44 1),o 46 (l 45),o 47 (.gB .u64 (t 46)),o 48 (b .or 34 47),M 5 48])) (R [M 31 6,o 32 (bb .add 31 (i 1)),M 6 32])))))) (r [M 49 5,M 4 49] y))))⟩
def bU (f_wire_Reader_Left f_wire_Reader_fails:Nat):gK:=⟨39,[.tmp 4],
  .seq (.aB [
    ⟨(some 4),.o (.mv (.k .bf)),none⟩])
  (.join (.seq (.aB [
     ⟨(some 5),.o (.mv (.t 0)),none⟩,
     ⟨(some 6),.o (.nc (.t 5)),none⟩,
     ⟨(some 7),.o (.fa (.t 6) 2),none⟩,
     ⟨(some 8),.o (.fa (.t 7) 0),none⟩,
     ⟨(some 9),.o (.ld (.t 8) none),none⟩,
     ⟨(some 10),.o (.bin .neq (.t 9) (.k (.int .i64 0))),none⟩,
     ⟨(some 11),.o (.mv (.t 10)),none⟩,
     ⟨(some 12),.o (.mv (.t 0)),(some (11,false))⟩,
     ⟨(some 13),.aI f_wire_Reader_Left [(.t 12)],(some (11,false))⟩,
     ⟨(some 14),.o (.mv (.t 1)),(some (11,false))⟩,
     ⟨(some 15),.o (.bin .lss (.t 13) (.t 14)),(some (11,false))⟩,
     ⟨(some 16),.o (.pick (.t 11) (.k (.bool true)) (.t 15)),none⟩])
   (.cond (.t 16) (.aB [
      ⟨(some 17),.o (.mv (.t 0)),none⟩,
      ⟨(some 18),.o (.mv (.t 0)),none⟩,
      ⟨(some 19),.o (.nc (.t 18)),none⟩,
      ⟨(some 20),.o (.fa (.t 19) 0),none⟩,
      ⟨(some 21),.o (.ld (.t 20) none),none⟩,
      ⟨(some 22),.o (.dM (.t 21)),none⟩,
      ⟨(some 23),.aI f_wire_Reader_fails [(.t 17),(.k (.int .i64 2)),(.t 22)],none⟩])
    (.skip)))
  (.seq (.sj [
    ⟨(some 24),.mv (.t 0),none⟩,
    ⟨(some 25),.nc (.t 24),none⟩,
    ⟨(some 26),.fa (.t 25) 0,none⟩,
    ⟨(some 27),.ld (.t 26) none,none⟩,
    ⟨(some 28),.mv (.t 0),none⟩,
    ⟨(some 29),.nc (.t 28),none⟩,
    ⟨(some 30),.fa (.t 29) 1,none⟩,
    ⟨(some 31),.ld (.t 30) none,none⟩,
    ⟨(some 32),.mv (.t 0),none⟩,
    ⟨(some 33),.nc (.t 32),none⟩,
    ⟨(some 34),.fa (.t 33) 1,none⟩,
    ⟨(some 35),.ld (.t 34) none,none⟩,
    ⟨(some 36),.mv (.t 1),none⟩,
    ⟨(some 37),.bin .add (.t 35) (.t 36),none⟩,
    ⟨(some 38),.xK 1 (.t 27) (some (.t 31)) (some (.t 37)),none⟩,
    ⟨(some 4),.mv (.t 38),none⟩])
  (.ret)))⟩
end
end Go.Eng
namespace Go.Eng
open Go
def fQ (n:Int):List AV:=[.int .u8 n]
structure Rd where
 b:Option (List Int)
 d5:Int
 code:Int
 DP:Int
def Rd.cells (r:Rd):List AV:=[bg fQ r.b,I r.d5,I r.code,I r.DP]
def Rd.len (r:Rd):Int:=((r.b.getD []).length:Int)
def Rd.Ok (r:Rd):Prop:=0≤r.d5∧r.d5≤r.len∧r.len≤1000000
def Rd.fault (r:Rd):AV:=.agg [I r.code,I r.DP]
def Rd.fail (r:Rd) (c a:Int):Rd:=if r.code=0 then { r with code:=c,DP:=a } else r
def up (e:Nat) (r:Rd):AV:=.iface e r.fault
def Rd.part (r:Rd) (n:Int):List Int:=((r.b.getD []).take (r.d5 + n).toNat).drop r.d5.toNat
def kU (v c:Int):Int:=DB .u64 (IntKind.u64.wrap (v * 2 ^ min 8 IntKind.u64.bits)) (IntKind.u64.wrap c)
def fe (l:List Int):Int:=l.foldl kU 0
def cG (r:Rd) (size lo hi:Int):Int × Rd :=
 let k:=cT size 0 7
 if ¬ (r.code=0∧k≤r.len - r.d5) then (0,r.fail 2 r.len) else
 let v:=IntKind.i64.wrap (fe (r.part k))
 if v < lo∨hi < v then (0,r.fail 4 r.d5) else (v,{ r with d5:=r.d5 + k })
def eP (r:Rd):Nat × Rd :=
 if ¬ (r.code=0∧8≤r.len - r.d5) then (0,r.fail 2 r.len) else ((fe (r.part 8)).toNat,{ r with d5:=r.d5 + 8 })
def oa (r:Rd):Bool × Rd:=((cG r 1 0 1).1 == 1,(cG r 1 0 1).2)
def kr.Spec (C:bA) (e f:Nat):Prop:=∀ (r:Rd) (c a:Int),C.q f [r.cells] [none,some (I c),some (I a)] (up e (r.fail c a)) [(r.fail c a).cells]
def kV.Spec (C:bA) (f:Nat):Prop:=∀ r:Rd,r.Ok→C.p f [r.cells] [none] (I (r.len - r.d5)) none [r.cells]
def Ao.Spec (C:bA) (f:Nat):Prop:=∀ r:Rd,C.p f [r.cells] [none] (I r.d5) none [r.cells]
def jg.Spec (C:bA) (f:Nat):Prop:=∀ r:Rd,C.p f [r.cells] [none] r.fault none [r.cells]
def oZ.Spec (C:bA) (e f:Nat):Prop :=
 (∀ (r:Rd) (n:Int),r.Ok→0≤n→n≤8→(r.code=0∧n≤r.len - r.d5)→C.p f [r.cells] [none,some (I n)] (bg fQ (r.b.map fun _=>r.part n)) none [r.cells]) ∧
 ∀ (r:Rd) (n:Int),r.Ok→¬ (r.code=0∧n≤r.len - r.d5)→C.q f [r.cells] [none,some (I n)] (up e (r.fail 2 r.len)) [(r.fail 2 r.len).cells]
def ku.Spec (C:bA) (e f:Nat):Prop :=
 (∀ (r:Rd) (n:Int),r.Ok→0≤n→n≤8→(r.code=0∧n≤r.len - r.d5)→C.p f [r.cells] [none,some (I n)] (.int .u64 (fe (r.part n))) none [r.cells]) ∧
 ∀ (r:Rd) (n:Int),r.Ok→¬ (r.code=0∧n≤r.len - r.d5)→C.q f [r.cells] [none,some (I n)] (up e (r.fail 2 r.len)) [(r.fail 2 r.len).cells]
def o3.Spec (C:bA) (e f:Nat):Prop:=(∀ n:Int,C.d f .bV [[I n]] [none] [[I n]])∧∀ (r:Rd) (n:Int),C.d f (up e r) [[I n]] [none] [[I 0]]
def o4.Spec (C:bA) (e f:Nat):Prop:=(∀ n:Nat,C.d f .bV [[Fl n]] [none] [[Fl n]])∧∀ (r:Rd) (n:Nat),C.d f (up e r) [[Fl n]] [none] [[Fl 0]]
def ob.Spec (C:bA) (f:Nat):Prop:=∀ (r:Rd) (size lo hi:Int),r.Ok→C.p f [r.cells] [none,some (I size),some (I lo),some (I hi)] (I (cG r size lo hi).1) none [(cG r size lo hi).2.cells]
def jh.Spec (C:bA) (f:Nat):Prop:=∀ r:Rd,r.Ok→C.p f [r.cells] [none] (Fl (eP r).1) none [(eP r).2.cells]
def nj.Spec (C:bA) (f:Nat):Prop:=∀ r:Rd,r.Ok→C.p f [r.cells] [none] (B (oa r).1) none [(oa r).2.cells]
theorem qf (r:Rd):((r.b.getD []).length:Int)=r.len:=rfl
theorem b5 {n:Int} (h1:-1000000000≤n) (h2:n≤1000000000):IntKind.i64.wrap n=n:=by
 simp only [IntKind.wrap,IntKind.bits,IntKind.signed]
 simp
 omega
theorem o5 {r:Rd} {n:Int} (hr:r.Ok) (h0:0≤n) (hn:n≤r.len - r.d5):((r.part n).length:Int)=n:=by
 obtain ⟨h1,h2,h3⟩:=hr
 simp only [Rd.len] at h2 h3 hn
 simp [Rd.part]; omega
theorem nk (l:List Int) (i:Nat) (x:Int) (h:l[i]? = some x):fe (l.take (i + 1))=kU (fe (l.take i)) x:=by
 rw [List.take_add_one,h]; simp [fe]
section
variable {P:Program} (hm:P.follows .mixedOrders=true) {f:Nat}
include hm
theorem Ao.ok (hc:fM P f=some dG):Ao.Spec (Pure P) f:=by
 intro r
 refine bC hm hc (by show 1≤7; decide) rfl (by simp) (aG (keep:=[]) (i:=0) ?_)
 try simp only [I,B,D,RX,ax,ay,aA,↓ KW,↓ az,seval,dG,Z.H,Rd.cells]
theorem jg.ok (hc:fM P f=some cz):jg.Spec (Pure P) f:=by
 intro r
 refine bC hm hc (by show 1≤7; decide) rfl (by simp) (aG (keep:=[]) (i:=0) ?_)
 try simp only [I,B,D,RX,ax,ay,aA,↓ KW,↓ az,seval,cz,Z.H,Rd.cells,Rd.fault]
theorem kV.ok (hc:fM P f=some cN):kV.Spec (Pure P) f:=by
 intro r hr
 obtain ⟨h1,h2,h3⟩:=hr
 refine bC hm hc (by show 1≤13; decide) rfl (by simp) (aG (keep:=[]) (i:=0) ?_)
 try simp only [I,B,D,RX,ax,ay,aA,↓ KW,↓ az,seval,cN,Z.H,Rd.cells,qf]
 rw [b5 (by omega) (by omega)]
theorem kr.ok {e:Nat} (hc:eD true P f=some (cB e)):kr.Spec (Pure P) e f:=by
 intro r c a
 refine mz hm hc (by show 3≤23; decide) rfl (by simp) (aG (keep:=[]) (i:=0) ?_)
 try simp only [I,B,D,RX,ax,ay,aA,↓ KW,↓ az,seval,cB,Z.H,Rd.cells]
 refine aE (fun h=>?_) (fun h=>?_)<;>try simp only [I,B,D,RX,ax,ay,aA,↓ KW,↓ az,seval,h]
 ·have h:r.code=0:=by simpa using h
  refine ⟨?_,?_⟩
  ·simp [up,Rd.fail,h,Rd.fault]
  ·simp [cS,aS,Rd.fail,h]
 ·have h:¬ r.code=0:=by simpa using h
  refine ⟨?_,?_⟩
  ·simp [up,Rd.fail,h,Rd.fault]
  ·simp [cS,aS,Rd.fail,h]
theorem oZ.ok {e fL fF:Nat} (hc:eD true P f=some (bU fL fF)) (hL:kV.Spec (Pure P) fL) (hF:kr.Spec (Pure P) e fF):oZ.Spec (Pure P) e f:=by
 refine ⟨fun r n hr h0 h8 hn=>?_,fun r n hr hn=>?_⟩
 ·obtain ⟨hn1,hn2⟩:=hn
  obtain ⟨b,q,c,a⟩:=r
  simp only at hn1
  subst hn1
  have hr':=hr
  obtain ⟨h1,h2,h3⟩:=hr'
  simp only [Rd.len] at h1 h2 h3 hn2
  have hw:=b5 (n:=q + n) (by omega) (by omega)
  refine bC hm hc (by show 2≤39; decide) rfl (by simp) (aG (keep:=[]) (i:=0) ?_)
  try simp only [I,B,D,RX,ax,ay,aA,↓ KW,↓ az,seval,bU,Z.H,Rd.cells]
  refine ⟨rfl,aq (hL ⟨b,q,0,a⟩ hr) ?_⟩
  try simp only [I,B,D,RX,ax,ay,aA,↓ KW,↓ az,seval,Rd.cells]
  try simp only [I,B,D,RX,ax,ay,aA,↓ KW,↓ az,seval,Rd.len]
  refine aE (fun h=>?_) (fun h=>?_)<;>try simp only [I,B,D,RX,ax,ay,aA,↓ KW,↓ az,seval,h]
  ·exfalso; have:=of_decide_eq_true h; omega
  ·try simp only [I,B,D,RX,ax,ay,aA,↓ KW,↓ az,seval,hw]
   refine ⟨⟨h1,by omega,by omega⟩,fun _ _=>rfl,?_⟩
   cases b<;>simp [sB,bg,Rd.part,List.map_drop,List.map_take]
 ·have fin:∀ {s:S},cS s.boxes 0 [(r.fail 2 r.len).cells]→wZ (up e (r.fail 2 r.len)) [(r.fail 2 r.len).cells] (.panic (ct (up e (r.fail 2 r.len)))) s:=fun h=>⟨rfl,h⟩
  refine mz hm hc (by show 2≤39; decide) rfl (by simp) (aG (keep:=[]) (i:=0) ?_)
  try simp only [I,B,D,RX,ax,ay,aA,↓ KW,↓ az,seval,bU,Z.H,Rd.cells]
  refine bY (fun h=>?_) (fun h=>?_)
  ·try simp only [I,B,D,RX,ax,ay,aA,↓ KW,↓ az,seval,h]
   refine ⟨rfl,dP (hF r 2 r.len) ?_⟩
   try simp only [I,B,D,RX,ax,ay,aA,↓ KW,↓ az,seval,Rd.cells]
  ·try simp only [I,B,D,RX,ax,ay,aA,↓ KW,↓ az,seval,h]
   refine ⟨rfl,aq (hL r hr) ?_⟩
   try simp only [I,B,D,RX,ax,ay,aA,↓ KW,↓ az,seval,Rd.cells,h]
   refine aE (fun h2=>?_) (fun h2=>?_)<;>try simp only [I,B,D,RX,ax,ay,aA,↓ KW,↓ az,seval,h2]
   ·refine ⟨rfl,dP (hF r 2 r.len) ?_⟩
    try simp only [I,B,D,RX,ax,ay,aA,↓ KW,↓ az,seval,Rd.cells]
   ·exfalso
    simp at h h2
    exact hn ⟨h,h2⟩
theorem ku.ok {e fN:Nat} (hc:eD true P f=some (bO fN)) (hN:oZ.Spec (Pure P) e fN):ku.Spec (Pure P) e f:=by
 refine ⟨fun r n hr h0 h8 hn=>?_,fun r n hr hn=>?_⟩
 ·have hl:=o5 hr h0 hn.2
  have hbd:(r.b.map fun _=>r.part n).getD []=r.part n:=by unfold Rd.part; cases r.b<;>simp
  obtain ⟨L,hL⟩:∃ L,L=r.part n:=⟨_,rfl⟩
  refine bC hm hc (by show 2≤23; decide) rfl (by simp) (aG (keep:=[]) (i:=0) ?_)
  try simp only [I,B,D,RX,ax,ay,aA,↓ KW,↓ az,seval,bO,Z.H,Rd.cells]
  refine ⟨rfl,aq (hN.1 r n hr h0 h8 hn) ?_⟩
  try simp only [I,B,D,RX,ax,ay,aA,↓ KW,↓ az,seval,Rd.cells]
  obtain ⟨O,hO⟩:∃ O,O=(r.b.map fun _=>r.part n):=⟨_,rfl⟩
  rw [← hO] at hbd ⊢
  rw [← hL] at hbd hl ⊢
  try simp only [I,B,D,RX,ax,ay,aA,↓ KW,↓ az,seval,hbd]
  refine cw (fun k:Nat=>(⟨[(12,.dat (I k) none),(11,.dat (I L.length) none),(10,.dat (bg fQ O) none),(5,.dat (.int .u64 (fe (L.take k))) none)],[(0,⟨r.cells,[]⟩)],[],400⟩:S)) (fun k=>L.length - k) (fun k=>k≤L.length) ?_ 0 (by omega) ?_
  ·intro k hk A back
   try simp only [I,B,D,RX,ax,ay,aA,↓ KW,↓ az,seval,Rd.cells]
   refine aE (fun h=>?_) (fun h=>?_)<;>try simp only [I,B,D,RX,ax,ay,aA,↓ KW,↓ az,seval,h]
   ·have hk2:k < L.length:=by have:=of_decide_eq_true h; omega
    obtain ⟨x,hx⟩:∃ x,L[k]? = some x:=⟨L[k],by simp [hk2]⟩
    have hw:=de (k:=k) (by have:=hr.2.2; omega)
    refine ⟨by rw [hbd]; omega,?_⟩
    try simp only [I,B,D,RX,ax,ay,aA,↓ KW,↓ az,seval,hbd,hx,fQ]
    refine back (k + 1) _ (by omega) (by omega) (aW (by decide) ?_ ?_ ?_ ?_)<;>simp [LX,I,B,D,hx,nk L k x hx,hw,Rd.cells]
    rfl
   ·have:k=L.length:=by have:=of_decide_eq_false h; omega
    subst this
    try simp only [I,B,D,RX,ax,ay,aA,↓ KW,↓ az,seval,List.take_length]
  ·refine aW (by decide) ?_ ?_ ?_ ?_<;>simp [LX,I,B,D,Rd.cells,fe]
 ·refine mz hm hc (by show 2≤23; decide) rfl (by simp) (aG (keep:=[]) (i:=0) ?_)
  try simp only [I,B,D,RX,ax,ay,aA,↓ KW,↓ az,seval,bO,Z.H,Rd.cells]
  refine ⟨rfl,dP (hN.2 r n hr hn) ?_⟩
  try simp only [I,B,D,RX,ax,ay,aA,↓ KW,↓ az,seval,Rd.cells]
theorem o3.ok {e:Nat} (hc:qb P f=some (bN e)):o3.Spec (Pure P) e f:=by
 refine ⟨fun n=>?_,fun r n=>?_⟩
 ·refine jL hm hc rfl (by show 1≤9; decide) rfl (by simp) ?_
  try simp only [I,B,D,RX,ax,ay,aA,↓ KW,↓ az,seval,bN,Z.H]
 ·refine jL hm hc rfl (by show 1≤9; decide) rfl (by simp) ?_
  try simp only [I,B,D,RX,ax,ay,aA,↓ KW,↓ az,seval,bN,Z.H,up,Rd.fault]
theorem o4.ok {e:Nat} (hc:qb P f=some (bD e)):o4.Spec (Pure P) e f:=by
 refine ⟨fun n=>?_,fun r n=>?_⟩
 ·refine jL hm hc rfl (by show 1≤9; decide) rfl (by simp) ?_
  try simp only [I,B,D,RX,ax,ay,aA,↓ KW,↓ az,seval,bD,Z.H]
 ·refine jL hm hc rfl (by show 1≤9; decide) rfl (by simp) ?_
  try simp only [I,B,D,RX,ax,ay,aA,↓ KW,↓ az,seval,bD,Z.H,up,Rd.fault]
theorem ob.ok {e f1 fW fF:Nat} (hc:qc P f=some (bI f1 fW fF)) (h1:o3.Spec (Pure P) e f1) (hW:ku.Spec (Pure P) e fW) (hF:kr.Spec (Pure P) e fF):ob.Spec (Pure P) f:=by
  intro r size lo hi hr
  have hm7:(if 7 < (if 0 > size then 0 else size) then 7 else (if 0 > size then 0 else size))=cT size 0 7:=by
    unfold cT; split<;>split<;>(try split)<;>omega
  obtain ⟨k,hk⟩:∃ k,k=cT size 0 7:=⟨_,rfl⟩
  have hk0:0≤k∧k≤7:=by rw [hk]; unfold cT; split<;>(try split)<;>omega
  rw [← hk] at hm7
  by_cases hn:r.code=0∧k≤r.len - r.d5
  · obtain ⟨v,hv⟩:∃ v,v=IntKind.i64.wrap (fe (r.part k)):=⟨_,rfl⟩
    have hsum:IntKind.i64.wrap (r.d5 + k)=r.d5 + k:=by obtain ⟨g1,g2,g3⟩:=hr; exact b5 (by omega) (by omega)
    by_cases hb:v < lo∨hi < v
    · have hR:cG r size lo hi=(0,r.fail 4 r.d5):=by simp [cG,← hk,← hv,hn,hb]
      rw [hR]
      refine g7 hm hc (by show 4≤40; decide) rfl (by simp) (gZ (keep:=[]) ?_)
      try simp only [I,B,D,RX,ax,ay,aA,↓ KW,↓ az,seval,bI,Z.H,Rd.cells,hm7]
      refine ⟨rfl,aq (hW.1 r k hr hk0.1 (by omega) hn) ?_⟩
      try simp only [I,B,D,RX,ax,ay,aA,↓ KW,↓ az,seval,Rd.cells,← hv]
      refine bY (fun h=>?_) (fun h=>?_)
      · try simp only [I,B,D,RX,ax,ay,aA,↓ KW,↓ az,seval,h]
        refine ⟨rfl,dP (hF r 4 r.d5) ?_⟩
        try simp only [I,B,D,RX,ax,ay,aA,↓ KW,↓ az,seval,Rd.cells]
        refine iH rfl (iI (h1.2 _ _) rfl rfl rfl ?_)
        try simp only [I,B,D,RX,ax,ay,aA,↓ KW,↓ az,seval,Rd.cells]
      · try simp only [I,B,D,RX,ax,ay,aA,↓ KW,↓ az,seval,h]
        have h2:decide (v > hi)=true:=by
          have:=of_decide_eq_false h; simp; omega
        refine aE (fun h3=>?_) (fun h3=>?_)<;>try simp only [I,B,D,RX,ax,ay,aA,↓ KW,↓ az,seval,h3]
        · refine ⟨rfl,dP (hF r 4 r.d5) ?_⟩
          try simp only [I,B,D,RX,ax,ay,aA,↓ KW,↓ az,seval,Rd.cells]
          refine iH rfl (iI (h1.2 _ _) rfl rfl rfl ?_)
          try simp only [I,B,D,RX,ax,ay,aA,↓ KW,↓ az,seval,Rd.cells]
        · exfalso; have:=of_decide_eq_false h; have:=of_decide_eq_false h3; omega
    · have hR:cG r size lo hi=(v,{ r with d5:=r.d5 + k }):=by simp [cG,← hk,← hv,hn,hb]
      rw [hR]
      refine g7 hm hc (by show 4≤40; decide) rfl (by simp) (gZ (keep:=[]) ?_)
      try simp only [I,B,D,RX,ax,ay,aA,↓ KW,↓ az,seval,bI,Z.H,Rd.cells,hm7]
      refine ⟨rfl,aq (hW.1 r k hr hk0.1 (by omega) hn) ?_⟩
      try simp only [I,B,D,RX,ax,ay,aA,↓ KW,↓ az,seval,Rd.cells,← hv]
      refine bY (fun h=>?_) (fun h=>?_)
      · exfalso; have:=of_decide_eq_true h; omega
      · try simp only [I,B,D,RX,ax,ay,aA,↓ KW,↓ az,seval,h]
        refine aE (fun h3=>?_) (fun h3=>?_)<;>try simp only [I,B,D,RX,ax,ay,aA,↓ KW,↓ az,seval,h3]
        · exfalso; have:=of_decide_eq_true h3; omega
        · try simp only [I,B,D,RX,ax,ay,aA,↓ KW,↓ az,seval,hsum]
          refine iI (h1.1 _) rfl rfl rfl ?_
          try simp only [I,B,D,RX,ax,ay,aA,↓ KW,↓ az,seval,Rd.cells]
  · have hR:cG r size lo hi=(0,r.fail 2 r.len):=by simp [cG,← hk,hn]
    rw [hR]
    refine g7 hm hc (by show 4≤40; decide) rfl (by simp) (gZ (keep:=[]) ?_)
    try simp only [I,B,D,RX,ax,ay,aA,↓ KW,↓ az,seval,bI,Z.H,Rd.cells,hm7]
    refine ⟨rfl,dP (hW.2 r k hr hn) ?_⟩
    try simp only [I,B,D,RX,ax,ay,aA,↓ KW,↓ az,seval,Rd.cells]
    refine iH rfl (iI (h1.2 _ _) rfl rfl rfl ?_)
    try simp only [I,B,D,RX,ax,ay,aA,↓ KW,↓ az,seval,Rd.cells]
theorem jh.ok {e f1 fW:Nat} (hc:qc P f=some (bM f1 fW)) (h1:o4.Spec (Pure P) e f1) (hW:ku.Spec (Pure P) e fW):jh.Spec (Pure P) f:=by
 intro r hr
 by_cases hn:r.code=0∧8≤r.len - r.d5
 ·have hsum:IntKind.i64.wrap (r.d5 + 8)=r.d5 + 8:=by obtain ⟨g1,g2,g3⟩:=hr; exact b5 (by omega) (by omega)
  have hR:eP r=((fe (r.part 8)).toNat,{ r with d5:=r.d5 + 8 }):=by simp [eP,hn]
  rw [hR]
  refine g7 hm hc (by show 1≤15; decide) rfl (by simp) (gZ (keep:=[]) ?_)
  try simp only [I,B,D,RX,ax,ay,aA,↓ KW,↓ az,seval,bM,Z.H,Rd.cells]
  refine ⟨rfl,aq (hW.1 r 8 hr (by omega) (by omega) hn) ?_⟩
  try simp only [I,B,D,RX,ax,ay,aA,↓ KW,↓ az,seval,Rd.cells,hsum]
  refine iI (h1.1 _) rfl rfl rfl ?_
  try simp only [I,B,D,RX,ax,ay,aA,↓ KW,↓ az,seval,Rd.cells]
 ·have hR:eP r=(0,r.fail 2 r.len):=by simp [eP,hn]
  rw [hR]
  refine g7 hm hc (by show 1≤15; decide) rfl (by simp) (gZ (keep:=[]) ?_)
  try simp only [I,B,D,RX,ax,ay,aA,↓ KW,↓ az,seval,bM,Z.H,Rd.cells]
  refine ⟨rfl,dP (hW.2 r 8 hr hn) ?_⟩
  try simp only [I,B,D,RX,ax,ay,aA,↓ KW,↓ az,seval,Rd.cells]
  refine iH rfl (iI (h1.2 _ _) rfl rfl rfl ?_)
  try simp only [I,B,D,RX,ax,ay,aA,↓ KW,↓ az,seval,Rd.cells]
theorem nj.ok {fN:Nat} (hc:fM P f=some (cM fN)) (hN:ob.Spec (Pure P) fN):nj.Spec (Pure P) f:=by
 intro r hr
 refine bC hm hc (by show 1≤6; decide) rfl (by simp) (aG (keep:=[]) (i:=0) ?_)
 try simp only [I,B,D,RX,ax,ay,aA,↓ KW,↓ az,seval,cM,Z.H,Rd.cells]
 refine ⟨rfl,aJ (hN r 1 0 1 hr) ?_⟩
 try simp only [I,B,D,RX,ax,ay,aA,↓ KW,↓ az,seval,Rd.cells]
 exact ⟨rfl,rfl⟩
end
end Go.Eng
namespace Go.Eng
open Go
def mA.Spec (C:bA) (f:Nat):Prop:=∀ b:Option (List Int),(b.getD []).length≤1000000→C.c f [bg fQ b] (bg fQ b) none
def o6.Spec (C:bA) (f:Nat):Prop:=∀ b:Option (List Int),(b.getD []).length≤1000000→C.n f [bg fQ b] (Rd.cells ⟨b,0,0,0⟩)
def cI (n:Int) (k:Nat):Int:=IntKind.u8.wrap (n.fdiv (2 ^ (8 * k)))
def eY (n:Int):Nat→List Int
 | 0=>[]
 | k + 1=>cI n k :: eY n k
def iN (l:List Int) (size n:Int):List Int:=l++eY n (cT size 0 8).toNat
theorem o7 {n:Int} (h1:0≤n) (h2:n≤1000000000):IntKind.u64.wrap n=n:=by
 simp only [IntKind.wrap,IntKind.bits,IntKind.signed]
 simp
 omega
theorem cH (n:Int):∀ k,(eY n k).length=k
 | 0=>rfl
 | k + 1=>by simp [eY,cH n k]
section
variable {P:Program} (hm:P.follows .mixedOrders=true) {f:Nat}
include hm
theorem mA.ok {e:Nat} (hc:fM P f=some (bp e)):mA.Spec (Pure P) f:=by
 intro b hb
 cases b with
 | none =>
  refine bT hm hc (by show 1≤8; decide) (aG (keep:=[]) (i:=0) ?_)
  try simp only [I,B,D,RX,ax,ay,aA,↓ KW,↓ az,seval,bp,Z.H,bg]
 | some l =>
  refine bT hm hc (by show 1≤8; decide) (aG (keep:=[]) (i:=0) ?_)
  try simp only [I,B,D,RX,ax,ay,aA,↓ KW,↓ az,seval,bp,Z.H,bg]
  refine ⟨by simp at hb; omega,fun _ _=>rfl⟩
theorem o6.ok {fC:Nat} (hc:fM P f=some (g9 fC)) (hC:mA.Spec (Pure P) fC):o6.Spec (Pure P) f:=by
 intro b hb
 refine uz hm hc (by show 1≤7; decide) (aG (keep:=[]) (i:=0) ?_)
 try simp only [I,B,D,RX,ax,ay,aA,↓ KW,↓ az,seval,g9,Z.H,List.map_cons,List.map_nil]
 refine aO (hC b hb) ?_
 try simp only [I,B,D,RX,ax,ay,aA,↓ KW,↓ az,seval,Rd.cells]
 cases b with
 | none =>
  try simp only [I,B,D,RX,ax,ay,aA,↓ KW,↓ az,seval,bg]
  exact ⟨by decide,rfl⟩
 | some l =>
  try simp only [I,B,D,RX,ax,ay,aA,↓ KW,↓ az,seval,bg]
  exact ⟨by decide,rfl⟩
def o8.Spec (C:bA) (f:Nat):Prop:=∀ (b:Option (List Int)) (size n:Int),(b.getD []).length≤1000000→C.c f [bg fQ b,I size,I n] (.sl ((iN (b.getD []) size n).map fQ)) none
def r5.Spec (C:bA) (f:Nat):Prop:=∀ (b:Option (List Int)) (size n:Int),(b.getD []).length≤1000000→C.c f [bg fQ b,I size,I n] (bg fQ (xE (iN (b.getD []) size n))) none
theorem o8.ok {e:Nat} (hc:eD true P f=some (g8 e)):o8.Spec (Pure P) f:=by
 intro b size n hb
 have hm8:(if 8 < (if 0 > size then 0 else size) then 8 else (if 0 > size then 0 else size))=cT size 0 8:=by
  unfold cT; split<;>split<;>(try split)<;>omega
 obtain ⟨K,hK,hK8⟩:∃ K:Nat,cT size 0 8=(K:Int)∧K≤8:=⟨(cT size 0 8).toNat,by unfold cT; split<;>(try split)<;>omega,by unfold cT; split<;>(try split)<;>omega⟩
 have hpl:iN (b.getD []) size n=b.getD []++eY n K:=by simp [iN,hK]
 rw [hpl]
 rw [hK] at hm8
 obtain ⟨l,hl⟩:∃ l,l=b.getD []:=⟨_,rfl⟩
 have hsum:IntKind.i64.wrap ((l.length:Int) + K)=((l.length + K:Nat):Int):=by rw [b5 (by omega) (by rw [hl]; omega)]; simp
 rw [← hl] at hb ⊢
 refine bT hm hc (by show 3≤37; decide) (aG (keep:=[]) (i:=0) ?_)
 try simp only [I,B,D,RX,ax,ay,aA,↓ KW,↓ az,seval,g8,Z.H,hm8,← hl,hsum]
 refine ⟨⟨by omega,by omega,by omega⟩,fun _ _=>rfl,?_⟩
 refine cw (fun x:Nat × List Int=>(⟨[(8,.dat (I ((x.1:Int) - 1)) none),(7,.dat (.sl ((l++x.2).map fQ)) (some 0)),(2,.dat (I n) none)],[],[(0,e)],400⟩:S)) (fun x=>x.1) (fun x=>x.1≤K∧x.2++eY n x.1=eY n K) ?_ (K,[]) ⟨by omega,rfl⟩ ?_
 ·intro x hx A back
  obtain ⟨j,G⟩:=x
  have hj:j≤K:=hx.1
  have hD:G++eY n j=eY n K:=hx.2
  clear hx
  have hdl:G.length + j=K:=by have:=congrArg List.length hD; simpa [cH] using this
  try simp only [I,B,D,RX,ax,ay,aA,↓ KW,↓ az,seval]
  refine aE (fun h=>?_) (fun h=>?_)<;>try simp only [I,B,D,RX,ax,ay,aA,↓ KW,↓ az,seval,h]
  ·obtain ⟨m,rfl⟩:∃ m,j=m + 1:=⟨j - 1,by have:=of_decide_eq_true h; omega⟩
   have e1:((m + 1:Nat):Int) - 1=(m:Int):=by omega
   have e2:IntKind.i64.wrap (8 * (m:Int))=8 * (m:Int):=b5 (by omega) (by omega)
   have e3:(8 * (m:Int)).toNat=8 * m:=by omega
   have e4:IntKind.i64.wrap ((m:Int) - 1)=(m:Int) - 1:=b5 (by omega) (by omega)
   have hmin:min (8 * (m:Int)).toNat IntKind.i64.bits=8 * m:=by
    show min (8 * (m:Int)).toNat 64=8 * m
    omega
   try simp only [I,B,D,RX,ax,ay,aA,↓ KW,↓ az,seval,e1,e2]
   refine ⟨by omega,by first | omega | (simp; omega),fun _ _=>rfl,?_⟩
   refine back (m,G++[cI n m]) _ ⟨by show m≤K; omega,by show G++[cI n m]++eY n m=_; rw [← hD]; simp [eY]⟩ (by show m < m + 1; omega) ?_
   refine aW (by decide) ?_ ?_ ?_ ?_<;>simp [LX,I,B,D,e4,hmin,cI,fQ]
  ·have:j=0:=by have:=of_decide_eq_false h; omega
   subst this
   try simp only [I,B,D,RX,ax,ay,aA,↓ KW,↓ az,seval]
   have hD:G++[]=eY n K:=hD
   rw [List.append_nil] at hD
   rw [hD]
 ·have e4:IntKind.i64.wrap ((K:Int) - 1)=(K:Int) - 1:=b5 (by omega) (by omega)
  refine aW (by decide) ?_ ?_ ?_ ?_<;>simp [LX,I,B,D,e4]
theorem r5.ok {e fC:Nat} (hc:fM P f=some (gq e fC)) (hC:Cut.Spec (Pure P) fC):r5.Spec (Pure P) f:=by
  intro b size n hb
  obtain ⟨K,hK,hK8⟩:∃ K:Nat,cT size 0 8=(K:Int)∧K≤8:=⟨(cT size 0 8).toNat,by unfold cT; split<;>(try split)<;>omega,by unfold cT; split<;>(try split)<;>omega⟩
  have hpl:iN (b.getD []) size n=b.getD []++eY n K:=by simp [iN,hK]
  rw [hpl]
  obtain ⟨l,hl⟩:∃ l,l=b.getD []:=⟨_,rfl⟩
  rw [← hl] at hb ⊢
  refine bT hm hc (by show 3≤28; decide) (aG (keep:=[]) (i:=0) ?_)
  try simp only [I,B,D,RX,ax,ay,aA,↓ KW,↓ az,seval,gq,Z.H,← hl]
  refine ⟨by omega,fun _ _=>rfl,?_⟩
  have e4:IntKind.i64.wrap ((K:Int) - 1)=(K:Int) - 1:=b5 (by omega) (by omega)
  by_cases hl0:l=[]
  · subst hl0
    rw [if_pos (show List.map fQ []=[] from rfl)]
    refine aO (hC _ _ _) ?_
    try simp only [I,B,D,RX,ax,ay,aA,↓ KW,↓ az,seval,hK,e4]
    refine cw (fun x:Nat × List Int=>(⟨[(8,.dat (I ((x.1:Int) - 1)) none),(7,fy fQ (x.2) 0),(2,.dat (I n) none)],[],ki (x.2) 0 e,400⟩:S)) (fun x=>x.1) (fun x=>x.1≤K∧x.2++eY n x.1=eY n K) ?_ (K,[]) ⟨by omega,rfl⟩ ?_
    · intro x hx A back
      obtain ⟨j,G⟩:=x
      have hj:j≤K:=hx.1
      have hD:G++eY n j=eY n K:=hx.2
      clear hx
      have hdl:G.length + j=K:=by have:=congrArg List.length hD; simpa [cH] using this
      by_cases hG:G=[]
      · try simp only [I,B,D,RX,ax,ay,aA,↓ KW,↓ az,seval,fy,ki,hG]
        refine aE (fun h=>?_) (fun h=>?_)<;>try simp only [I,B,D,RX,ax,ay,aA,↓ KW,↓ az,seval,h]
        · obtain ⟨m,rfl⟩:∃ m,j=m + 1:=⟨j - 1,by have:=of_decide_eq_true h; omega⟩
          have e1:((m + 1:Nat):Int) - 1=(m:Int):=by omega
          have e2:IntKind.i64.wrap (8 * (m:Int))=8 * (m:Int):=b5 (by omega) (by omega)
          have e5:IntKind.i64.wrap ((m:Int) - 1)=(m:Int) - 1:=b5 (by omega) (by omega)
          have e6:IntKind.u64.wrap (8 * (m:Int))=8 * (m:Int):=o7 (by omega) (by omega)
          have hmin:min (8 * (m:Int)).toNat IntKind.i64.bits=8 * m:=by
            show min (8 * (m:Int)).toNat 64=8 * m
            omega
          try simp only [I,B,D,RX,ax,ay,aA,↓ KW,↓ az,seval,e1,e2,e6]
          refine ⟨by omega,?_⟩
          try simp only [I,B,D,RX,ax,ay,aA,↓ KW,↓ az,seval]
          refine back (m,G++[cI n m]) _ ⟨by show m≤K; omega,by show G++[cI n m]++eY n m=_; rw [← hD]; simp [eY]⟩ (by show m < m + 1; omega) ?_
          refine aW (by decide) ?_ ?_ ?_ ?_<;>simp [LX,I,B,D,e5,hmin,cI,fQ,fy,ki,hG]
        · have:j=0:=by have:=of_decide_eq_false h; omega
          subst this
          try simp only [I,B,D,RX,ax,ay,aA,↓ KW,↓ az,seval]
          have hD:G++[]=eY n K:=hD
          rw [List.append_nil] at hD
          rw [← hD,hG]
          rfl
      · try simp only [I,B,D,RX,ax,ay,aA,↓ KW,↓ az,seval,fy,ki,hG]
        refine aE (fun h=>?_) (fun h=>?_)<;>try simp only [I,B,D,RX,ax,ay,aA,↓ KW,↓ az,seval,h]
        · obtain ⟨m,rfl⟩:∃ m,j=m + 1:=⟨j - 1,by have:=of_decide_eq_true h; omega⟩
          have e1:((m + 1:Nat):Int) - 1=(m:Int):=by omega
          have e2:IntKind.i64.wrap (8 * (m:Int))=8 * (m:Int):=b5 (by omega) (by omega)
          have e5:IntKind.i64.wrap ((m:Int) - 1)=(m:Int) - 1:=b5 (by omega) (by omega)
          have e6:IntKind.u64.wrap (8 * (m:Int))=8 * (m:Int):=o7 (by omega) (by omega)
          have hmin:min (8 * (m:Int)).toNat IntKind.i64.bits=8 * m:=by
            show min (8 * (m:Int)).toNat 64=8 * m
            omega
          try simp only [I,B,D,RX,ax,ay,aA,↓ KW,↓ az,seval,e1,e2,e6]
          refine ⟨by omega,by first | omega | (simp; omega),fun _ _=>rfl,?_⟩
          refine back (m,G++[cI n m]) _ ⟨by show m≤K; omega,by show G++[cI n m]++eY n m=_; rw [← hD]; simp [eY]⟩ (by show m < m + 1; omega) ?_
          refine aW (by decide) ?_ ?_ ?_ ?_<;>simp [LX,I,B,D,e5,hmin,cI,fQ,fy,ki]
        · have:j=0:=by have:=of_decide_eq_false h; omega
          subst this
          try simp only [I,B,D,RX,ax,ay,aA,↓ KW,↓ az,seval]
          have hD:G++[]=eY n K:=hD
          rw [List.append_nil] at hD
          rw [hD] at hG ⊢
          simp [bg,xE,hG]
    · refine aW (by decide) ?_ ?_ ?_ ?_<;>simp [LX,I,B,D,e4,fy,ki]
  · have:¬ List.map fQ l=[]:=by simpa using hl0
    rw [if_neg this]
    refine aO (hC _ _ _) ?_
    try simp only [I,B,D,RX,ax,ay,aA,↓ KW,↓ az,seval,hK,e4]
    refine cw (fun x:Nat × List Int=>(⟨[(8,.dat (I ((x.1:Int) - 1)) none),(7,fy fQ (l++x.2) 0),(2,.dat (I n) none)],[],ki (l++x.2) 0 e,400⟩:S)) (fun x=>x.1) (fun x=>x.1≤K∧x.2++eY n x.1=eY n K) ?_ (K,[]) ⟨by omega,rfl⟩ ?_
    · intro x hx A back
      obtain ⟨j,G⟩:=x
      have hj:j≤K:=hx.1
      have hD:G++eY n j=eY n K:=hx.2
      clear hx
      have hdl:G.length + j=K:=by have:=congrArg List.length hD; simpa [cH] using this
      by_cases hG:l++G=[]
      · try simp only [I,B,D,RX,ax,ay,aA,↓ KW,↓ az,seval,fy,ki,hG]
        refine aE (fun h=>?_) (fun h=>?_)<;>try simp only [I,B,D,RX,ax,ay,aA,↓ KW,↓ az,seval,h]
        · obtain ⟨m,rfl⟩:∃ m,j=m + 1:=⟨j - 1,by have:=of_decide_eq_true h; omega⟩
          have e1:((m + 1:Nat):Int) - 1=(m:Int):=by omega
          have e2:IntKind.i64.wrap (8 * (m:Int))=8 * (m:Int):=b5 (by omega) (by omega)
          have e5:IntKind.i64.wrap ((m:Int) - 1)=(m:Int) - 1:=b5 (by omega) (by omega)
          have e6:IntKind.u64.wrap (8 * (m:Int))=8 * (m:Int):=o7 (by omega) (by omega)
          have hmin:min (8 * (m:Int)).toNat IntKind.i64.bits=8 * m:=by
            show min (8 * (m:Int)).toNat 64=8 * m
            omega
          try simp only [I,B,D,RX,ax,ay,aA,↓ KW,↓ az,seval,e1,e2,e6]
          refine ⟨by omega,?_⟩
          try simp only [I,B,D,RX,ax,ay,aA,↓ KW,↓ az,seval]
          refine back (m,G++[cI n m]) _ ⟨by show m≤K; omega,by show G++[cI n m]++eY n m=_; rw [← hD]; simp [eY]⟩ (by show m < m + 1; omega) ?_
          have hG':l=[]∧G=[]:=by simpa using hG
          obtain ⟨hl',hG''⟩:=hG'
          refine aW (by decide) ?_ ?_ ?_ ?_<;>simp [LX,I,B,D,e5,hmin,cI,fQ,fy,ki,hl',hG'']
        · have:j=0:=by have:=of_decide_eq_false h; omega
          subst this
          try simp only [I,B,D,RX,ax,ay,aA,↓ KW,↓ az,seval]
          have hD:G++[]=eY n K:=hD
          rw [List.append_nil] at hD
          rw [← hD,hG]
          rfl
      · try simp only [I,B,D,RX,ax,ay,aA,↓ KW,↓ az,seval,fy,ki,hG]
        refine aE (fun h=>?_) (fun h=>?_)<;>try simp only [I,B,D,RX,ax,ay,aA,↓ KW,↓ az,seval,h]
        · obtain ⟨m,rfl⟩:∃ m,j=m + 1:=⟨j - 1,by have:=of_decide_eq_true h; omega⟩
          have e1:((m + 1:Nat):Int) - 1=(m:Int):=by omega
          have e2:IntKind.i64.wrap (8 * (m:Int))=8 * (m:Int):=b5 (by omega) (by omega)
          have e5:IntKind.i64.wrap ((m:Int) - 1)=(m:Int) - 1:=b5 (by omega) (by omega)
          have e6:IntKind.u64.wrap (8 * (m:Int))=8 * (m:Int):=o7 (by omega) (by omega)
          have hmin:min (8 * (m:Int)).toNat IntKind.i64.bits=8 * m:=by
            show min (8 * (m:Int)).toNat 64=8 * m
            omega
          try simp only [I,B,D,RX,ax,ay,aA,↓ KW,↓ az,seval,e1,e2,e6]
          refine ⟨by omega,by first | omega | (simp; omega),fun _ _=>rfl,?_⟩
          refine back (m,G++[cI n m]) _ ⟨by show m≤K; omega,by show G++[cI n m]++eY n m=_; rw [← hD]; simp [eY]⟩ (by show m < m + 1; omega) ?_
          refine aW (by decide) ?_ ?_ ?_ ?_<;>simp [LX,I,B,D,e5,hmin,cI,fQ,fy,ki]
        · have:j=0:=by have:=of_decide_eq_false h; omega
          subst this
          try simp only [I,B,D,RX,ax,ay,aA,↓ KW,↓ az,seval]
          have hD:G++[]=eY n K:=hD
          rw [List.append_nil] at hD
          rw [hD] at hG ⊢
          simp [bg,xE,hG]
    · refine aW (by decide) ?_ ?_ ?_ ?_<;>simp [LX,I,B,D,e4,fy,ki,hl0]
def nq.Spec (C:bA) (f:Nat):Prop:=∀ (b:Option (List Int)) (x:Nat),(b.getD []).length≤1000000→C.c f [bg fQ b,Fl x] (.sl ((iN (b.getD []) 8 (IntKind.i64.wrap x)).map fQ)) none
def o9.Spec (C:bA) (f:Nat):Prop:=∀ (b:Option (List Int)) (x:Nat),(b.getD []).length≤1000000→C.c f [bg fQ b,Fl x] (bg fQ (xE (iN (b.getD []) 8 (IntKind.i64.wrap x)))) none
theorem nq.ok {fP:Nat} (hc:fM P f=some (dQ fP)) (hP:o8.Spec (Pure P) fP):nq.Spec (Pure P) f:=by
 intro b x hb
 refine bT hm hc (by show 2≤10; decide) (aG (keep:=[]) (i:=0) ?_)
 try simp only [I,B,D,RX,ax,ay,aA,↓ KW,↓ az,seval,dQ,Z.H,xI]
 refine aO (hP b 8 _ hb) ?_
 try simp only [I,B,D,RX,ax,ay,aA,↓ KW,↓ az,seval]
theorem o9.ok {fP:Nat} (hc:fM P f=some (dF fP)) (hP:r5.Spec (Pure P) fP):o9.Spec (Pure P) f:=by
 intro b x hb
 refine bT hm hc (by show 2≤10; decide) (aG (keep:=[]) (i:=0) ?_)
 try simp only [I,B,D,RX,ax,ay,aA,↓ KW,↓ az,seval,dF,Z.H,xI]
 refine aO (hP b 8 _ hb) ?_
 try simp only [I,B,D,RX,ax,ay,aA,↓ KW,↓ az,seval]
def pg.Spec (C:bA) (f:Nat):Prop:=∀ a b:Option (List Int),(a.getD []).length≤1000000000→C.c f [bg fQ a,bg fQ b] (B ((a.getD []) == (b.getD []))) none
theorem pg.ok (hc:fM P f=some cY):pg.Spec (Pure P) f:=by
  intro a b ha
  obtain ⟨l,hl⟩:∃ l,l=a.getD []:=⟨_,rfl⟩
  obtain ⟨m,hm'⟩:∃ m,m=b.getD []:=⟨_,rfl⟩
  rw [← hl] at ha ⊢
  rw [← hm']
  refine bT hm hc (by show 2≤26; decide) (aG (keep:=[]) (i:=0) ?_)
  try simp only [I,B,D,RX,ax,ay,aA,↓ KW,↓ az,seval,cY,Z.H,← hl,← hm']
  refine aE (fun h=>?_) (fun h=>?_)<;>try simp only [I,B,D,RX,ax,ay,aA,↓ KW,↓ az,seval,h]
  · have h:¬ l.length=m.length:=by simp only [bne_iff_ne,ne_eq] at h; omega
    have:(l == m)=false:=by rw [beq_eq_false_iff_ne]; intro e; exact h (by rw [e])
    simp [this]
  · have h:l.length=m.length:=by simp at h; omega
    refine cw (fun i:Nat=>(⟨[(5,.dat (I i) none),(0,.dat (bg fQ a) none),(1,.dat (bg fQ b) none)],[],[],400⟩:S)) (fun i=>l.length - i) (fun i=>i≤l.length∧l.take i=m.take i) ?_ 0 ⟨by omega,rfl⟩ ?_
    · intro i hi A back
      obtain ⟨hi,ht⟩:=hi
      try simp only [I,B,D,RX,ax,ay,aA,↓ KW,↓ az,seval,← hl,← hm']
      refine aE (fun h2=>?_) (fun h2=>?_)<;>try simp only [I,B,D,RX,ax,ay,aA,↓ KW,↓ az,seval,h2]
      · have h3:i < l.length:=by have:=of_decide_eq_true h2; omega
        obtain ⟨x,hx⟩:∃ x,l[i]? = some x:=⟨l[i],by simp [h3]⟩
        obtain ⟨y,hy⟩:∃ y,m[i]? = some y:=⟨m[i]'(by omega),by simp [show i < m.length by omega]⟩
        have hw:=de (k:=i) (by omega)
        refine ⟨⟨by omega,by first | omega | (rw [← hl]; omega)⟩,?_⟩
        try simp only [I,B,D,RX,ax,ay,aA,↓ KW,↓ az,seval,← hl,← hm',hx,fQ]
        refine ⟨⟨by omega,by first | omega | (rw [← hm']; omega)⟩,?_⟩
        try simp only [I,B,D,RX,ax,ay,aA,↓ KW,↓ az,seval,← hl,← hm',hy,fQ]
        refine aE (fun h4=>?_) (fun h4=>?_)<;>try simp only [I,B,D,RX,ax,ay,aA,↓ KW,↓ az,seval,h4]
        · have hne:¬ x=y:=by simpa using h4
          have:(l == m)=false:=by rw [beq_eq_false_iff_ne]; intro e; rw [e] at hx; rw [hx] at hy; exact hne (Option.some.inj hy)
          rw [this]
        · have hxy:x=y:=by simpa using h4
          refine back (i + 1) _ ⟨by omega,by rw [List.take_add_one,List.take_add_one,ht,hx,hy,hxy]⟩ (by omega) ?_
          refine aW (by decide) ?_ ?_ ?_ ?_<;>simp [LX,I,B,D,hw]
      · have:i=l.length:=by have:=of_decide_eq_false h2; omega
        have:(l == m)=true:=by rw [beq_iff_eq]; rw [this,List.take_length,h,List.take_length] at ht; exact ht
        rw [this]
    · refine aW (by decide) ?_ ?_ ?_ ?_<;>simp [LX,I,B,D]
end
end Go.Eng
namespace Go.Eng
open Go
def fI (r:Rd) (n:Int):Int × Rd:=if r.len - r.d5 < n then (0,{ r with code:=2,DP:=r.len }) else (fe (r.part n),r)
def AH.Spec (C:bA) (f:Nat):Prop:=∀ r:Rd,C.p f [r.cells] [none] (B (r.code == 0)) none [r.cells]
def nr.Spec (C:bA) (f:Nat):Prop:=∀ (r:Rd) (n:Int),r.Ok→0≤n→n≤8→C.p f [r.cells] [none,some (I n)] (.int .u64 (fI r n).1) none [(fI r n).2.cells]
section
variable {P:Program} (hm:P.follows .mixedOrders=true) {f:Nat}
include hm
theorem AH.ok (hc:fM P f=some cZ):AH.Spec (Pure P) f:=by
 intro r
 refine bC hm hc (by show 1≤9; decide) rfl (by simp) (aG (keep:=[]) (i:=0) ?_)
 try simp only [I,B,D,RX,↓ KW,seval,cZ,Z.H,Rd.cells]
theorem nr.ok (hc:fM P f=some cC):nr.Spec (Pure P) f:=by
  intro r n hr h0 h8
  have hr':=hr
  obtain ⟨h1,h2,h3⟩:=hr'
  have hw1:IntKind.i64.wrap (r.len - r.d5)=r.len - r.d5:=b5 (by omega) (by omega)
  refine bC hm hc (by show 2≤50; decide) rfl (by simp) (aG (keep:=[]) (i:=0) ?_)
  try simp only [I,B,D,RX,↓ KW,seval,cC,Z.H,Rd.cells,qf,hw1]
  refine aE (fun h=>?_) (fun h=>?_)<;>try simp only [I,B,D,RX,↓ KW,seval,h]
  · have h:r.len - r.d5 < n:=of_decide_eq_true h
    simp [fI,h]
    rfl
  · have h:¬ r.len - r.d5 < n:=of_decide_eq_false h
    have hb:fI r n=(fe (r.part n),r):=by simp [fI,h]
    rw [hb]
    have hl:=o5 hr h0 (by omega)
    obtain ⟨L,hL⟩:∃ L,L=r.part n:=⟨_,rfl⟩
    rw [← hL] at hl ⊢
    refine cw (fun k:Nat=>(⟨[(6,.dat (I k) none),(1,.dat (I n) none),(0,.ptr 0 0),(5,.dat (.int .u64 (fe (L.take k))) none)],[(0,⟨r.cells,[]⟩)],[],400⟩:S)) (fun k=>L.length - k) (fun k=>k≤L.length) ?_ 0 (by omega) ?_
    · intro k hk A back
      try simp only [I,B,D,RX,↓ KW,seval,Rd.cells]
      refine aE (fun h5=>?_) (fun h5=>?_)<;>try simp only [I,B,D,RX,↓ KW,seval,h5]
      · have hk2:k < L.length:=by have:=of_decide_eq_true h5; omega
        obtain ⟨x,hx⟩:∃ x,L[k]? = some x:=⟨L[k],by simp [hk2]⟩
        have hx2:(r.b.getD [])[(r.d5 + k).toNat]? = some x:=by
          rw [hL] at hx
          have e:(r.d5 + k).toNat=r.d5.toNat + k:=by omega
          unfold Rd.part at hx
          rw [List.getElem?_drop,List.getElem?_take] at hx
          rw [e]
          split at hx
          · exact hx
          · cases hx
        have hw:=de (k:=k) (by omega)
        have hw2:IntKind.i64.wrap (r.d5 + k)=r.d5 + k:=b5 (by omega) (by omega)
        try simp only [I,B,D,RX,↓ KW,seval,hw2]
        have hlen:r.d5 + (k:Int) < ((r.b.getD []).length:Int):=by rw [qf]; omega
        refine ⟨⟨by omega,hlen⟩,?_⟩
        try simp only [I,B,D,RX,↓ KW,seval,hx2,fQ]
        refine back (k + 1) _ (by omega) (by omega) (aW (by decide) ?_ ?_ ?_ ?_)<;>simp [LX,I,B,D,hx,nk L k x hx,hw,Rd.cells]
        rfl
      · have:k=L.length:=by have:=of_decide_eq_false h5; omega
        subst this
        try simp only [I,B,D,RX,↓ KW,seval,List.take_length]
    · refine aW (by decide) ?_ ?_ ?_ ?_<;>simp [LX,I,B,D,Rd.cells,fe]
def r6.Spec (C:bA) (f:Nat):Prop:=∀ (r:Rd) (size lo hi:Int),r.Ok→C.p f [r.cells] [none,some (I size),some (I lo),some (I hi)] (I (cG r size lo hi).1) none [(cG r size lo hi).2.cells]
def mB.Spec (C:bA) (f:Nat):Prop:=∀ r:Rd,r.Ok→C.p f [r.cells] [none] (Fl (eP r).1) none [(eP r).2.cells]
def pn.Spec (C:bA) (f:Nat):Prop:=∀ r:Rd,r.Ok→C.p f [r.cells] [none] (B (oa r).1) none [(oa r).2.cells]
theorem r6.ok {fO fC fB:Nat} (hc:fM P f=some (bn fO fC fB)) (hO:AH.Spec (Pure P) fO) (hC:Cut.Spec (Pure P) fC) (hB:nr.Spec (Pure P) fB):r6.Spec (Pure P) f:=by
  intro r size lo hi hr
  obtain ⟨k,hk⟩:∃ k,k=cT size 0 7:=⟨_,rfl⟩
  have hk0:0≤k∧k≤7:=by rw [hk]; unfold cT; split<;>(try split)<;>omega
  by_cases h0:r.code=0
  · obtain ⟨b,q,c,a⟩:=r
    simp only at h0
    subst h0
    have hr':=hr
    obtain ⟨g1,g2,g3⟩:=hr'
    simp only at g1 g2
    have ok0:=hO ⟨b,q,0,a⟩
    by_cases hn:(Rd.mk b q 0 a).len - q < k
    · have hR:cG ⟨b,q,0,a⟩ size lo hi=(0,⟨b,q,2,(Rd.mk b q 0 a).len⟩):=by
        have:¬ k≤(Rd.mk b q 0 a).len - q:=by omega
        simp [cG,← hk,this,Rd.fail]
      have hb:fI ⟨b,q,0,a⟩ k=(0,⟨b,q,2,(Rd.mk b q 0 a).len⟩):=by simp [fI,hn]
      have hbs:=hB ⟨b,q,0,a⟩ k hr hk0.1 (by omega)
      rw [hb] at hbs
      rw [hR]
      refine bC hm hc (by show 4≤53; decide) rfl (by simp) (aG (keep:=[]) (i:=0) ?_)
      try simp only [I,B,D,RX,↓ KW,seval,bn,Z.H,Rd.cells]
      refine ⟨rfl,aJ ok0 ?_⟩
      try simp only [I,B,D,RX,↓ KW,seval,Rd.cells]
      refine aO (hC _ _ _) ?_
      try simp only [I,B,D,RX,↓ KW,seval,← hk]
      refine ⟨rfl,aJ hbs ?_⟩
      try simp only [I,B,D,RX,↓ KW,seval,Rd.cells]
      refine ⟨rfl,aJ (hO ⟨b,q,2,_⟩) ?_⟩
      try simp only [I,B,D,RX,↓ KW,seval,Rd.cells]
      refine ⟨rfl,aJ (hO ⟨b,q,2,_⟩) ?_⟩
      try simp only [I,B,D,RX,↓ KW,seval,Rd.cells]
      rfl
    · have hb:fI ⟨b,q,0,a⟩ k=(fe ((Rd.mk b q 0 a).part k),⟨b,q,0,a⟩):=by simp [fI,hn]
      have hbs:=hB ⟨b,q,0,a⟩ k hr hk0.1 (by omega)
      rw [hb] at hbs
      obtain ⟨v,hv⟩:∃ v,v=IntKind.i64.wrap (fe ((Rd.mk b q 0 a).part k)):=⟨_,rfl⟩
      have hk':k≤(Rd.mk b q 0 a).len - q:=by omega
      have hsum:IntKind.i64.wrap (q + k)=q + k:=b5 (by omega) (by omega)
      have pre:(cG ⟨b,q,0,a⟩ size lo hi)=if v < lo∨hi < v then (0,⟨b,q,4,q⟩) else (v,⟨b,q + k,0,a⟩):=by
        simp [cG,← hk,hk',← hv,Rd.fail]
      by_cases hbad:v < lo∨hi < v
      · rw [pre,if_pos hbad]
        refine bC hm hc (by show 4≤53; decide) rfl (by simp) (aG (keep:=[]) (i:=0) ?_)
        try simp only [I,B,D,RX,↓ KW,seval,bn,Z.H,Rd.cells]
        refine ⟨rfl,aJ ok0 ?_⟩
        try simp only [I,B,D,RX,↓ KW,seval,Rd.cells]
        refine aO (hC _ _ _) ?_
        try simp only [I,B,D,RX,↓ KW,seval,← hk]
        refine ⟨rfl,aJ hbs ?_⟩
        try simp only [I,B,D,RX,↓ KW,seval,Rd.cells,← hv]
        refine ⟨rfl,aJ ok0 ?_⟩
        try simp only [I,B,D,RX,↓ KW,seval,Rd.cells]
        refine bY (fun h=>?_) (fun h=>?_)
        · try simp only [I,B,D,RX,↓ KW,seval,h]
          refine ⟨rfl,aJ (hO ⟨b,q,4,q⟩) ?_⟩
          try simp only [I,B,D,RX,↓ KW,seval,Rd.cells]
        · try simp only [I,B,D,RX,↓ KW,seval,h]
          have h2:hi < v:=by have:=of_decide_eq_false h; omega
          refine aE (fun h3=>?_) (fun h3=>?_)<;>try simp only [I,B,D,RX,↓ KW,seval,h3]
          · refine ⟨rfl,aJ (hO ⟨b,q,4,q⟩) ?_⟩
            try simp only [I,B,D,RX,↓ KW,seval,Rd.cells]
          · exfalso; have:=of_decide_eq_false h3; omega
      · rw [pre,if_neg hbad]
        refine bC hm hc (by show 4≤53; decide) rfl (by simp) (aG (keep:=[]) (i:=0) ?_)
        try simp only [I,B,D,RX,↓ KW,seval,bn,Z.H,Rd.cells]
        refine ⟨rfl,aJ ok0 ?_⟩
        try simp only [I,B,D,RX,↓ KW,seval,Rd.cells]
        refine aO (hC _ _ _) ?_
        try simp only [I,B,D,RX,↓ KW,seval,← hk]
        refine ⟨rfl,aJ hbs ?_⟩
        try simp only [I,B,D,RX,↓ KW,seval,Rd.cells,← hv]
        refine ⟨rfl,aJ ok0 ?_⟩
        try simp only [I,B,D,RX,↓ KW,seval,Rd.cells]
        refine bY (fun h=>?_) (fun h=>?_)
        · exfalso; have:=of_decide_eq_true h; omega
        · try simp only [I,B,D,RX,↓ KW,seval,h]
          refine aE (fun h3=>?_) (fun h3=>?_)<;>try simp only [I,B,D,RX,↓ KW,seval,h3]
          · exfalso; have:=of_decide_eq_true h3; omega
          · refine ⟨rfl,aJ ok0 ?_⟩
            try simp only [I,B,D,RX,↓ KW,seval,Rd.cells,hsum]
  · have hz:(r.code == 0)=false:=by simpa using h0
    have hR:cG r size lo hi=(0,r):=by simp [cG,h0,Rd.fail]
    rw [hR]
    refine bC hm hc (by show 4≤53; decide) rfl (by simp) (aG (keep:=[]) (i:=0) ?_)
    try simp only [I,B,D,RX,↓ KW,seval,bn,Z.H,Rd.cells]
    refine ⟨rfl,aJ (hO r) ?_⟩
    try simp only [I,B,D,RX,↓ KW,seval,Rd.cells,hz]
theorem mB.ok {fO fB:Nat} (hc:fM P f=some (bq fO fB)) (hO:AH.Spec (Pure P) fO) (hB:nr.Spec (Pure P) fB):mB.Spec (Pure P) f:=by
 intro r hr
 by_cases h0:r.code=0
 ·obtain ⟨b,q,c,a⟩:=r
  simp only at h0
  subst h0
  have hr':=hr
  obtain ⟨g1,g2,g3⟩:=hr'
  simp only at g1 g2
  have ok0:=hO ⟨b,q,0,a⟩
  by_cases hn:(Rd.mk b q 0 a).len - q < 8
  ·have hR:eP ⟨b,q,0,a⟩=(0,⟨b,q,2,(Rd.mk b q 0 a).len⟩):=by
    have:¬ 8≤(Rd.mk b q 0 a).len - q:=by omega
    simp [eP,this,Rd.fail]
   have hb:fI ⟨b,q,0,a⟩ 8=(0,⟨b,q,2,(Rd.mk b q 0 a).len⟩):=by simp [fI,hn]
   have hbs:=hB ⟨b,q,0,a⟩ 8 hr (by omega) (by omega)
   rw [hb] at hbs
   rw [hR]
   refine bC hm hc (by show 1≤22; decide) rfl (by simp) (aG (keep:=[]) (i:=0) ?_)
   try simp only [I,B,D,RX,↓ KW,seval,bq,Z.H,Rd.cells]
   refine ⟨rfl,aJ ok0 ?_⟩
   try simp only [I,B,D,RX,↓ KW,seval,Rd.cells]
   refine ⟨rfl,aJ hbs ?_⟩
   try simp only [I,B,D,RX,↓ KW,seval,Rd.cells]
   refine ⟨rfl,aJ (hO ⟨b,q,2,_⟩) ?_⟩
   try simp only [I,B,D,RX,↓ KW,seval,Rd.cells]
   rfl
  ·have hb:fI ⟨b,q,0,a⟩ 8=(fe ((Rd.mk b q 0 a).part 8),⟨b,q,0,a⟩):=by simp [fI,hn]
   have hbs:=hB ⟨b,q,0,a⟩ 8 hr (by omega) (by omega)
   rw [hb] at hbs
   have hk':8≤(Rd.mk b q 0 a).len - q:=by omega
   have hsum:IntKind.i64.wrap (q + 8)=q + 8:=b5 (by omega) (by omega)
   have pre:eP ⟨b,q,0,a⟩=((fe ((Rd.mk b q 0 a).part 8)).toNat,⟨b,q + 8,0,a⟩):=by simp [eP,hk']
   rw [pre]
   refine bC hm hc (by show 1≤22; decide) rfl (by simp) (aG (keep:=[]) (i:=0) ?_)
   try simp only [I,B,D,RX,↓ KW,seval,bq,Z.H,Rd.cells]
   refine ⟨rfl,aJ ok0 ?_⟩
   try simp only [I,B,D,RX,↓ KW,seval,Rd.cells]
   refine ⟨rfl,aJ hbs ?_⟩
   try simp only [I,B,D,RX,↓ KW,seval,Rd.cells]
   refine ⟨rfl,aJ ok0 ?_⟩
   try simp only [I,B,D,RX,↓ KW,seval,Rd.cells,hsum]
 ·have hz:(r.code == 0)=false:=by simpa using h0
  have hR:eP r=(0,r):=by simp [eP,h0,Rd.fail]
  rw [hR]
  refine bC hm hc (by show 1≤22; decide) rfl (by simp) (aG (keep:=[]) (i:=0) ?_)
  try simp only [I,B,D,RX,↓ KW,seval,bq,Z.H,Rd.cells]
  refine ⟨rfl,aJ (hO r) ?_⟩
  try simp only [I,B,D,RX,↓ KW,seval,Rd.cells,hz]
theorem pn.ok {fN:Nat} (hc:fM P f=some (cA fN)) (hN:r6.Spec (Pure P) fN):pn.Spec (Pure P) f:=by
 intro r hr
 refine bC hm hc (by show 1≤6; decide) rfl (by simp) (aG (keep:=[]) (i:=0) ?_)
 try simp only [I,B,D,RX,↓ KW,seval,cA,Z.H,Rd.cells]
 refine ⟨rfl,aJ (hN r 1 0 1 hr) ?_⟩
 try simp only [I,B,D,RX,↓ KW,seval,Rd.cells]
 exact ⟨rfl,rfl⟩
end
end Go.Eng
namespace Go.Eng
open Go
theorem oc {r:Rd} (h:r.Ok) (c a:Int):(r.fail c a).Ok∧(r.fail c a).b=r.b:=by
 unfold Rd.fail; split
 ·exact ⟨h,rfl⟩
 ·exact ⟨h,rfl⟩
theorem Eu (n:Int):0≤cT n 0 7∧cT n 0 7≤7:=by unfold cT; split<;>(try split)<;>omega
theorem od {r:Rd} (h:r.Ok) (size lo hi:Int):(cG r size lo hi).2.Ok∧(cG r size lo hi).2.b=r.b:=by
 have hk:=Eu size
 unfold cG
 simp only
 split
 ·exact oc h _ _
 ·rename_i hn
  split
  ·exact oc h _ _
  ·obtain ⟨h1,h2,h3⟩:=h
   refine ⟨⟨?_,?_,h3⟩,rfl⟩
   ·show 0≤r.d5 + _; omega
   ·show r.d5 + _≤r.len; simp at hn; omega
theorem qY {r:Rd} (h:r.Ok):(eP r).2.Ok∧(eP r).2.b=r.b:=by
 unfold eP
 split
 ·exact oc h _ _
 ·rename_i hn
  obtain ⟨h1,h2,h3⟩:=h
  refine ⟨⟨?_,?_,h3⟩,rfl⟩
  ·show 0≤r.d5 + _; omega
  ·show r.d5 + _≤r.len; simp at hn; omega
theorem qZ {r:Rd} (h:r.Ok):(oa r).2.Ok∧(oa r).2.b=r.b:=od h 1 0 1
theorem qg {b:Option (List Int)} (h:(b.getD []).length≤1000000):(Rd.mk b 0 0 0).Ok:=⟨by simp,by simp [Rd.len],by simp only [Rd.len]; omega⟩
theorem Dj {α:Type} (f:α→List AV) (b:Option (List α)) (off:Nat) (ps:List (Nat × List AV)):qN off 1 (some (bg f b)) (some ps)=some ((off,[bg f b]) :: ps):=by cases b<;>rfl
theorem jM (a b:Int):aZ [.i,.i] [.int .i64 a,.int .i64 b] [.int .i64 a,.int .i64 b]=some true:=by simp [aZ,iS]
def eZ.Spec (C:bA) (f:Nat):Prop:=C.c f [] (B true) none
def jN.Spec (C:bA) (f:Nat):Prop:=∀ (b:Option (List Int)) (size n:Int) (x:Nat),C.c f [bg fQ b,I size,I n,Fl x] (B true) none
section
variable {P:Program} (hm:P.follows .mixedOrders=true) {f:Nat}
include hm
theorem eZ.ok {e fN fU fA fP:Nat} (hc:eD true P f=some (eM e fN fU fA fP)) (hN:o6.Spec (Pure P) fN) (hU:ob.Spec (Pure P) fU) (hA:Ao.Spec (Pure P) fA) (hP:o8.Spec (Pure P) fP):eZ.Spec (Pure P) f:=by
 have hn:cG ⟨some [1,2],0,0,0⟩ 2 0 300=(258,⟨some [1,2],2,0,0⟩):=by rfl
 have h1:=hU ⟨some [1,2],0,0,0⟩ 2 0 300 (qg (by simp))
 rw [hn] at h1
 refine bT hm hc (by show 0≤21; decide) (aG (keep:=[]) (i:=0) ?_)
 try simp only [I,B,D,RX,ax,ay,aA,↓ KW,↓ az,seval,eM,Z.H]
 refine iE (hN (some [1,2]) (by simp)) ?_
 try simp only [I,B,D,RX,ax,ay,aA,↓ KW,↓ az,seval,Rd.cells]
 refine ⟨rfl,aq (h1) ?_⟩
 try simp only [I,B,D,RX,ax,ay,aA,↓ KW,↓ az,seval,Rd.cells]
 refine ⟨rfl,aq (hA ⟨some [1,2],2,0,0⟩) ?_⟩
 try simp only [I,B,D,RX,ax,ay,aA,↓ KW,↓ az,seval,Rd.cells]
 refine bZ (hP none 2 258 (by simp)) ?_
 try simp only [I,B,D,RX,ax,ay,aA,↓ KW,↓ az,seval]
 rfl
theorem jN.ok {fW e fP fF fR fS fG:Nat} (hc:fM P f=some (dA fW e fP fF fR fS fG)) (hW:eZ.Spec (Pure P) fW) (hP:o8.Spec (Pure P) fP) (hF:nq.Spec (Pure P) fF) (hR:r5.Spec (Pure P) fR) (hS:pg.Spec (Pure P) fS) (hG:o9.Spec (Pure P) fG):jN.Spec (Pure P) f:=by
 intro b size n x
 refine bT hm hc (by show 4≤48; decide) (aG (keep:=[]) (i:=0) ?_)
 try simp only [I,B,D,RX,ax,ay,aA,↓ KW,↓ az,seval,dA,Z.H]
 refine aE (fun h=>?_) (fun h=>?_)<;>try simp only [I,B,D,RX,ax,ay,aA,↓ KW,↓ az,seval,h]
 ·refine aO (hW) ?_
  try simp only [I,B,D,RX,ax,ay,aA,↓ KW,↓ az,seval]
 ·have hb:(b.getD []).length≤100:=by have:=of_decide_eq_false h; omega
  have mk:∀ L:List Int,(xE L).getD []=L:=fun L=>by cases L<;>simp [xE]
  obtain ⟨p,hp⟩:∃ p,p=iN (b.getD []) size n:=⟨_,rfl⟩
  obtain ⟨q,hq⟩:∃ q,q=iN (b.getD []) 8 (IntKind.i64.wrap x):=⟨_,rfl⟩
  have pl:∀ s m:Int,(iN (b.getD []) s m).length≤108:=by
   intro s m
   have:(cT s 0 8).toNat≤8:=by unfold cT; split<;>(try split)<;>omega
   simp [iN,cH]; omega
  have hp':p.length≤108:=by rw [hp]; exact pl _ _
  have hq':q.length≤108:=by rw [hq]; exact pl _ _
  have c1:=hP b size n (by omega)
  have c2:=hF b x (by omega)
  have c3:=hR b size n (by omega)
  have c4:=hG b x (by omega)
  rw [← hp] at c1 c3
  rw [← hq] at c2 c4
  have s1:=hS (some p) (xE p) (by simp; omega)
  have s2:=hS (some q) (xE q) (by simp; omega)
  rw [mk] at s1 s2
  have s3:=hS b b (by omega)
  simp only [Option.getD_some,beq_self_eq_true] at s1 s2 s3
  refine ⟨by omega,fun _ _=>rfl,?_⟩
  by_cases h0:b.getD []=[]
  ·have e0:List.map fQ (b.getD [])=[]:=by rw [h0]; rfl
   rw [if_pos e0]
   have s4:=hS b none (by omega)
   rw [h0] at s4
   simp only [Option.getD_none,beq_self_eq_true] at s4
   refine aO c1 ?_
   try simp only [I,B,D,RX,ax,ay,aA,↓ KW,↓ az,seval]
   refine aO c2 ?_
   try simp only [I,B,D,RX,ax,ay,aA,↓ KW,↓ az,seval]
   refine aO c3 ?_
   try simp only [I,B,D,RX,ax,ay,aA,↓ KW,↓ az,seval]
   refine aO s1 ?_
   try simp only [I,B,D,RX,ax,ay,aA,↓ KW,↓ az,seval]
   refine aO c4 ?_
   try simp only [I,B,D,RX,ax,ay,aA,↓ KW,↓ az,seval]
   refine aO s2 ?_
   try simp only [I,B,D,RX,ax,ay,aA,↓ KW,↓ az,seval]
   refine aO s4 ?_
   try simp only [I,B,D,RX,ax,ay,aA,↓ KW,↓ az,seval]
   refine aO (hW) ?_
   try simp only [I,B,D,RX,ax,ay,aA,↓ KW,↓ az,seval]
  ·have e0:¬ List.map fQ (b.getD [])=[]:=by simpa using h0
   rw [if_neg e0]
   have s4:=hS b (some (b.getD [])) (by omega)
   simp only [Option.getD_some,beq_self_eq_true] at s4
   refine aO c1 ?_
   try simp only [I,B,D,RX,ax,ay,aA,↓ KW,↓ az,seval]
   refine aO c2 ?_
   try simp only [I,B,D,RX,ax,ay,aA,↓ KW,↓ az,seval]
   refine aO c3 ?_
   try simp only [I,B,D,RX,ax,ay,aA,↓ KW,↓ az,seval]
   refine aO s1 ?_
   try simp only [I,B,D,RX,ax,ay,aA,↓ KW,↓ az,seval]
   refine aO c4 ?_
   try simp only [I,B,D,RX,ax,ay,aA,↓ KW,↓ az,seval]
   refine aO s2 ?_
   try simp only [I,B,D,RX,ax,ay,aA,↓ KW,↓ az,seval]
   refine aO s4 ?_
   try simp only [I,B,D,RX,ax,ay,aA,↓ KW,↓ az,seval]
   refine aO (hW) ?_
   try simp only [I,B,D,RX,ax,ay,aA,↓ KW,↓ az,seval]
structure Ev where
 kind:Int
 size:Int
 low:Int
 high:Int
def AI (d:Ev):List AV:=[I d.kind,I d.size,I d.low,I d.high]
def iJ.Spec (C:bA) (f:Nat):Prop:=∀ (b:Option (List Int)) (l:Option (List Ev)),C.c f [bg fQ b,bg AI l] (B true) none
theorem iJ.ok {fW fN f1 f2 f3 f4 fA f5 f6 f7 f8 f9:Nat} (hc:eD true P f=some (cX fW fN f1 f2 f3 f4 fA f5 f6 f7 f8 f9)) (hW:eZ.Spec (Pure P) fW) (hN:o6.Spec (Pure P) fN)
    (h1:ob.Spec (Pure P) f1) (h2:r6.Spec (Pure P) f2) (h3:jh.Spec (Pure P) f3) (h4:mB.Spec (Pure P) f4) (hA:ko.Spec (Pure P) fA) (h5:nj.Spec (Pure P) f5) (h6:pn.Spec (Pure P) f6) (h7:Ao.Spec (Pure P) f7) (h8:kV.Spec (Pure P) f8) (h9:jg.Spec (Pure P) f9):iJ.Spec (Pure P) f:=by
  intro b l
  refine bT hm hc (by show 2≤114; decide) (aG (keep:=[]) (i:=0) ?_)
  try simp only [I,B,D,RX,ax,ay,aA,↓ KW,↓ az,seval,cX,Z.H]
  refine bY (fun h=>?_) (fun h=>?_)
  · try simp only [I,B,D,RX,ax,ay,aA,↓ KW,↓ az,seval,h]
    refine bZ (hW) ?_
    try simp only [I,B,D,RX,ax,ay,aA,↓ KW,↓ az,seval]
  · try simp only [I,B,D,RX,ax,ay,aA,↓ KW,↓ az,seval,h]
    refine aE (fun h'=>?_) (fun h'=>?_)<;>try simp only [I,B,D,RX,ax,ay,aA,↓ KW,↓ az,seval,h']
    · refine bZ (hW) ?_
      try simp only [I,B,D,RX,ax,ay,aA,↓ KW,↓ az,seval]
    · have hb:(b.getD []).length≤200:=by have:=of_decide_eq_false h; omega
      have hl:(l.getD []).length≤40:=by have:=of_decide_eq_false h'; omega
      obtain ⟨L,hL⟩:∃ L,L=l.getD []:=⟨_,rfl⟩
      rw [← hL] at hl
      refine iE (hN b (by omega)) ?_
      try simp only [I,B,D,RX,ax,ay,aA,↓ KW,↓ az,seval,Rd.cells,Dj]
      refine cw (fun x:Nat × Rd=>(⟨[(7,.dat (I x.1) none),(0,.dat (bg fQ b) none),(1,.dat (bg AI l) none),(5,.ptr 14 0),(6,.ptr 18 0)],[(18,⟨x.2.cells,[]⟩),(14,⟨x.2.cells,[]⟩)],[],400⟩:S)) (fun x=>L.length - x.1) (fun x=>x.1≤L.length∧x.2.Ok∧x.2.b=b) ?_ (0,⟨b,0,0,0⟩) ⟨by omega,qg (by omega),rfl⟩ ?_
      · intro x hx A back
        obtain ⟨i,r⟩:=x
        have hi:i≤L.length:=hx.1
        have hr:r.Ok:=hx.2.1
        have hrb:r.b=b:=hx.2.2
        clear hx
        try simp only [I,B,D,RX,ax,ay,aA,↓ KW,↓ az,seval,← hL]
        refine aE (fun h10=>?_) (fun h10=>?_)<;>try simp only [I,B,D,RX,ax,ay,aA,↓ KW,↓ az,seval,h10]
        · have hi2:i < L.length:=by have:=of_decide_eq_true h10; omega
          obtain ⟨d,hd⟩:∃ d,L[i]? = some d:=⟨L[i],by simp [hi2]⟩
          have hb0:0≤(i:Int):=by omega
          have hb1:(i:Int) < (L.length:Int):=by omega
          have hw:=de (k:=i) (by omega)
          try simp only [I,B,D,RX,ax,ay,aA,↓ KW,↓ az,seval,hb0,hb1,← hL,hd,AI]
          refine aE (fun h11=>?_) (fun h11=>?_)<;>try simp only [I,B,D,RX,ax,ay,aA,↓ KW,↓ az,seval,h11]
          · obtain ⟨r2,hr2e⟩:∃ r2,r2=(cG r d.size d.low d.high).2:=⟨_,rfl⟩
            have hr2:r2.Ok:=by rw [hr2e]; exact (od hr _ _ _).1
            have hrb2:r2.b=b:=by rw [hr2e,(od hr _ _ _).2,hrb]
            refine oT rfl ?_
            try simp only [I,B,D,RX,ax,ay,aA,↓ KW,↓ az,seval,hb0,hb1,← hL,hd,AI]
            refine ⟨rfl,aJ (h1 r d.size d.low d.high hr) ?_⟩
            try simp only [I,B,D,RX,ax,ay,aA,↓ KW,↓ az,seval,hb0,hb1,← hL,hd,AI,← hr2e]
            refine ⟨rfl,aJ (h2 r d.size d.low d.high hr) ?_⟩
            try simp only [I,B,D,RX,ax,ay,aA,↓ KW,↓ az,seval,bne_self_eq_false,← hr2e]
            have hw2:IntKind.i64.wrap (((b.getD []).length:Int) - r2.d5)=r2.len - r2.d5:=by
              have e:((b.getD []).length:Int)=r2.len:=by rw [← hrb2]; rfl
              obtain ⟨k1,k2,k3⟩:=hr2
              rw [e]; exact b5 (by omega) (by omega)
            refine tQ [1,9,21] rfl ?_
            try simp only [I,B,D,RX,ax,ay,aA,↓ KW,↓ az,seval,Rd.cells]
            refine ⟨rfl,dz (h7 r2) ?_⟩
            try simp only [I,B,D,RX,ax,ay,aA,↓ KW,↓ az,seval,Rd.cells,bne_self_eq_false]
            refine ⟨rfl,dz (h8 r2 hr2) ?_⟩
            try simp only [I,B,D,RX,ax,ay,aA,↓ KW,↓ az,seval,Rd.cells,bne_self_eq_false,hw2]
            refine ⟨rfl,dz (h9 r2) ?_⟩
            try simp only [I,B,D,RX,ax,ay,aA,↓ KW,↓ az,seval,Rd.cells,Rd.fault,bne_self_eq_false,hw2,jM]
            refine back (i + 1,r2) _ ⟨by show i + 1≤L.length; omega,hr2,hrb2⟩ (by show L.length - (i + 1) < L.length - i; omega) ?_
            refine aW (by decide) ?_ ?_ ?_ ?_<;>simp [LX,I,B,D,hw,Rd.cells]
          · try simp only [I,B,D,RX,ax,ay,aA,↓ KW,↓ az,seval]
            refine aE (fun h12=>?_) (fun h12=>?_)<;>try simp only [I,B,D,RX,ax,ay,aA,↓ KW,↓ az,seval,h12]
            · obtain ⟨r2,hr2e⟩:∃ r2,r2=(eP r).2:=⟨_,rfl⟩
              have hr2:r2.Ok:=by rw [hr2e]; exact (qY hr).1
              have hrb2:r2.b=b:=by rw [hr2e,(qY hr).2,hrb]
              refine ⟨rfl,aq (h3 r hr) ?_⟩
              try simp only [I,B,D,RX,ax,ay,aA,↓ KW,↓ az,seval,← hr2e]
              refine ⟨rfl,aq (h4 r hr) ?_⟩
              try simp only [I,B,D,RX,ax,ay,aA,↓ KW,↓ az,seval,← hr2e]
              refine bZ (hA _ _) ?_
              try simp only [I,B,D,RX,ax,ay,aA,↓ KW,↓ az,seval,mu,← hr2e]
              have hw2:IntKind.i64.wrap (((b.getD []).length:Int) - r2.d5)=r2.len - r2.d5:=by
                have e:((b.getD []).length:Int)=r2.len:=by rw [← hrb2]; rfl
                obtain ⟨k1,k2,k3⟩:=hr2
                rw [e]; exact b5 (by omega) (by omega)
              refine tQ [1,9,21] rfl ?_
              try simp only [I,B,D,RX,ax,ay,aA,↓ KW,↓ az,seval,Rd.cells]
              refine ⟨rfl,dz (h7 r2) ?_⟩
              try simp only [I,B,D,RX,ax,ay,aA,↓ KW,↓ az,seval,Rd.cells,bne_self_eq_false]
              refine ⟨rfl,dz (h8 r2 hr2) ?_⟩
              try simp only [I,B,D,RX,ax,ay,aA,↓ KW,↓ az,seval,Rd.cells,bne_self_eq_false,hw2]
              refine ⟨rfl,dz (h9 r2) ?_⟩
              try simp only [I,B,D,RX,ax,ay,aA,↓ KW,↓ az,seval,Rd.cells,Rd.fault,bne_self_eq_false,hw2,jM]
              refine back (i + 1,r2) _ ⟨by show i + 1≤L.length; omega,hr2,hrb2⟩ (by show L.length - (i + 1) < L.length - i; omega) ?_
              refine aW (by decide) ?_ ?_ ?_ ?_<;>simp [LX,I,B,D,hw,Rd.cells]
            · obtain ⟨r2,hr2e⟩:∃ r2,r2=(oa r).2:=⟨_,rfl⟩
              have hr2:r2.Ok:=by rw [hr2e]; exact (qZ hr).1
              have hrb2:r2.b=b:=by rw [hr2e,(qZ hr).2,hrb]
              refine ⟨rfl,aq (h5 r hr) ?_⟩
              try simp only [I,B,D,RX,ax,ay,aA,↓ KW,↓ az,seval,← hr2e]
              refine ⟨rfl,aq (h6 r hr) ?_⟩
              try simp only [I,B,D,RX,ax,ay,aA,↓ KW,↓ az,seval,← hr2e,bne_self_eq_false]
              have hw2:IntKind.i64.wrap (((b.getD []).length:Int) - r2.d5)=r2.len - r2.d5:=by
                have e:((b.getD []).length:Int)=r2.len:=by rw [← hrb2]; rfl
                obtain ⟨k1,k2,k3⟩:=hr2
                rw [e]; exact b5 (by omega) (by omega)
              refine tQ [1,9,21] rfl ?_
              try simp only [I,B,D,RX,ax,ay,aA,↓ KW,↓ az,seval,Rd.cells]
              refine ⟨rfl,dz (h7 r2) ?_⟩
              try simp only [I,B,D,RX,ax,ay,aA,↓ KW,↓ az,seval,Rd.cells,bne_self_eq_false]
              refine ⟨rfl,dz (h8 r2 hr2) ?_⟩
              try simp only [I,B,D,RX,ax,ay,aA,↓ KW,↓ az,seval,Rd.cells,bne_self_eq_false,hw2]
              refine ⟨rfl,dz (h9 r2) ?_⟩
              try simp only [I,B,D,RX,ax,ay,aA,↓ KW,↓ az,seval,Rd.cells,Rd.fault,bne_self_eq_false,hw2,jM]
              refine back (i + 1,r2) _ ⟨by show i + 1≤L.length; omega,hr2,hrb2⟩ (by show L.length - (i + 1) < L.length - i; omega) ?_
              refine aW (by decide) ?_ ?_ ?_ ?_<;>simp [LX,I,B,D,hw,Rd.cells]
        · refine bZ (hW) ?_
          try simp only [I,B,D,RX,ax,ay,aA,↓ KW,↓ az,seval]
      · refine aW (by decide) ?_ ?_ ?_ ?_<;>simp [LX,I,B,D,Rd.cells]
end
end Go.Eng
