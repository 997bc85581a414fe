/- The slim code, for running, of functions of the given program; that it is theirs is checked. -/
import Derived.Test.YtjojndgfbbmfnaaDoorAmS
import Derived.Test.YtjojndgfbbmfnaaDoorProg
import Derived.KernelRfl
set_option maxRecDepth 100000
namespace Go.AM.FD
open Go.Proofs
-- slices.partitionOrdered[int]
def f93 : FFn := ⟨168, [.tmp 8, .tmp 9],
 (.seq (.region [⟨true, ⟨(some 8), .mov (.c (.int .i64 (.ofNat 0))), [], none⟩⟩,
   ⟨true, ⟨(some 9), .mov (.c (.bool false)), [0], none⟩⟩] [] 768)
 (.seq (.region [⟨true, ⟨(some 12), .mov (.t 0), [], none⟩⟩,
   ⟨true, ⟨(some 13), .mov (.t 1), [], none⟩⟩,
   ⟨true, ⟨(some 14), .mov (.t 0), [], none⟩⟩,
   ⟨true, ⟨(some 15), .mov (.t 3), [], none⟩⟩,
   ⟨true, ⟨(some 16), .mov (.t 0), [], none⟩⟩,
   ⟨true, ⟨(some 17), .mov (.t 3), [], none⟩⟩,
   ⟨true, ⟨(some 18), .iaddr none 1 (.t 16) (.t 17), [4, 5], none⟩⟩,
   ⟨true, ⟨(some 19), .load none (.t 18), [6], none⟩⟩,
   ⟨true, ⟨(some 20), .mov (.t 0), [], none⟩⟩,
   ⟨true, ⟨(some 21), .mov (.t 1), [], none⟩⟩,
   ⟨true, ⟨(some 22), .iaddr none 1 (.t 20) (.t 21), [8, 9], none⟩⟩,
   ⟨true, ⟨(some 23), .load none (.t 22), [10], none⟩⟩,
   ⟨true, ⟨(some 24), .iaddr none 1 (.t 12) (.t 13), [0, 1, 0, 1, 4, 5, 6, 7, 11], none⟩⟩,
   ⟨false, ⟨none, .store 1 (.t 24) (.t 19), [12, 7, 0, 1, 4, 5, 6, 7, 11], none⟩⟩,
   ⟨true, ⟨(some 25), .iaddr none 1 (.t 14) (.t 15), [2, 3, 0, 1, 2, 3, 4, 5, 6, 7, 8, 9, 10, 11, 12, 13], none⟩⟩,
   ⟨false, ⟨none, .store 1 (.t 25) (.t 23), [14, 11, 13, 0, 1, 2, 3, 4, 5, 6, 7, 8, 9, 10, 11, 12, 13], none⟩⟩] [] 67104776)
 (.seq (.region [⟨true, ⟨(some 26), .mov (.t 1), [], none⟩⟩,
   ⟨true, ⟨(some 27), .bin .add (.t 26) (.c (.int .i64 (.ofNat 1))), [0], none⟩⟩,
   ⟨true, ⟨(some 28), .mov (.t 2), [], none⟩⟩,
   ⟨true, ⟨(some 29), .bin .sub (.t 28) (.c (.int .i64 (.ofNat 1))), [2], none⟩⟩,
   ⟨true, ⟨(some 10), .mov (.t 27), [1, 0, 1], none⟩⟩,
   ⟨true, ⟨(some 11), .mov (.t 29), [3, 4, 0, 1, 2, 3, 4], none⟩⟩] [] 1006632964)
 (.seq (.block 0 (.loop (.seq (.seq (.region [⟨true, ⟨(some 30), .mov (.t 10), [], none⟩⟩,
   ⟨true, ⟨(some 31), .mov (.t 11), [], none⟩⟩,
   ⟨true, ⟨(some 32), .bin .leq (.t 30) (.t 31), [0, 1], none⟩⟩,
   ⟨true, ⟨(some 33), .mov (.t 32), [2], none⟩⟩,
   ⟨false, ⟨(some 34), .mov (.t 0), [3], (some (33, true))⟩⟩,
   ⟨false, ⟨(some 35), .mov (.t 10), [3], (some (33, true))⟩⟩,
   ⟨false, ⟨(some 36), .iaddr none 1 (.t 34) (.t 35), [4, 5, 3], (some (33, true))⟩⟩,
   ⟨false, ⟨(some 37), .load none (.t 36), [6, 3], (some (33, true))⟩⟩,
   ⟨false, ⟨(some 38), .mov (.t 0), [3], (some (33, true))⟩⟩,
   ⟨false, ⟨(some 39), .mov (.t 1), [3], (some (33, true))⟩⟩,
   ⟨false, ⟨(some 40), .iaddr none 1 (.t 38) (.t 39), [8, 9, 3], (some (33, true))⟩⟩,
   ⟨false, ⟨(some 41), .load none (.t 40), [10, 3], (some (33, true))⟩⟩,
   ⟨false, ⟨(some 42), .call .heap (.f 91) [(.t 37), (.t 41)], [7, 11, 3, 3], (some (33, true))⟩⟩,
   ⟨true, ⟨(some 43), .pick (.t 33) (.t 42) (.c (.bool false)), [3, 12], none⟩⟩] [] 16106127360)
 (.cond (.t 43)
  .skip
  (.exit 0)))
 (.block 1 (.region [⟨true, ⟨(some 44), .mov (.t 10), [], none⟩⟩,
   ⟨true, ⟨(some 45), .bin .add (.t 44) (.c (.int .i64 (.ofNat 1))), [0], none⟩⟩,
   ⟨false, ⟨(some 10), .mov (.t 45), [1, 0, 1], none⟩⟩] [] 61572651155456)))))
 (.seq (.block 2 (.loop (.seq (.seq (.region [⟨true, ⟨(some 46), .mov (.t 10), [], none⟩⟩,
   ⟨true, ⟨(some 47), .mov (.t 11), [], none⟩⟩,
   ⟨true, ⟨(some 48), .bin .leq (.t 46) (.t 47), [0, 1], none⟩⟩,
   ⟨true, ⟨(some 49), .mov (.t 48), [2], none⟩⟩,
   ⟨false, ⟨(some 50), .mov (.t 0), [3], (some (49, true))⟩⟩,
   ⟨false, ⟨(some 51), .mov (.t 11), [3], (some (49, true))⟩⟩,
   ⟨false, ⟨(some 52), .iaddr none 1 (.t 50) (.t 51), [4, 5, 3], (some (49, true))⟩⟩,
   ⟨false, ⟨(some 53), .load none (.t 52), [6, 3], (some (49, true))⟩⟩,
   ⟨false, ⟨(some 54), .mov (.t 0), [3], (some (49, true))⟩⟩,
   ⟨false, ⟨(some 55), .mov (.t 1), [3], (some (49, true))⟩⟩,
   ⟨false, ⟨(some 56), .iaddr none 1 (.t 54) (.t 55), [8, 9, 3], (some (49, true))⟩⟩,
   ⟨false, ⟨(some 57), .load none (.t 56), [10, 3], (some (49, true))⟩⟩,
   ⟨false, ⟨(some 58), .call .heap (.f 91) [(.t 53), (.t 57)], [7, 11, 3, 3], (some (49, true))⟩⟩,
   ⟨false, ⟨(some 59), .un .not (.t 58), [12, 3], (some (49, true))⟩⟩,
   ⟨true, ⟨(some 60), .pick (.t 49) (.t 59) (.c (.bool false)), [3, 13], none⟩⟩] [] 1064310075817984)
 (.cond (.t 60)
  .skip
  (.exit 2)))
 (.block 3 (.region [⟨true, ⟨(some 61), .mov (.t 11), [], none⟩⟩,
   ⟨true, ⟨(some 62), .bin .sub (.t 61) (.c (.int .i64 (.ofNat 1))), [0], none⟩⟩,
   ⟨false, ⟨(some 11), .mov (.t 62), [1, 0, 1], none⟩⟩] [] 8070450532247928832)))))
 (.seq (.seq (.region [⟨true, ⟨(some 63), .mov (.t 10), [], none⟩⟩,
   ⟨true, ⟨(some 64), .mov (.t 11), [], none⟩⟩,
   ⟨true, ⟨(some 65), .bin .gtr (.t 63) (.t 64), [0, 1], none⟩⟩] [] 28821920494177484800)
 (.cond (.t 65)
  (.seq (.region [⟨true, ⟨(some 66), .mov (.t 0), [], none⟩⟩,
    ⟨true, ⟨(some 67), .mov (.t 11), [], none⟩⟩,
    ⟨true, ⟨(some 68), .mov (.t 0), [], none⟩⟩,
    ⟨true, ⟨(some 69), .mov (.t 1), [], none⟩⟩,
    ⟨true, ⟨(some 70), .mov (.t 0), [], none⟩⟩,
    ⟨true, ⟨(some 71), .mov (.t 1), [], none⟩⟩,
    ⟨true, ⟨(some 72), .iaddr none 1 (.t 70) (.t 71), [4, 5], none⟩⟩,
    ⟨true, ⟨(some 73), .load none (.t 72), [6], none⟩⟩,
    ⟨true, ⟨(some 74), .mov (.t 0), [], none⟩⟩,
    ⟨true, ⟨(some 75), .mov (.t 11), [], none⟩⟩,
    ⟨true, ⟨(some 76), .iaddr none 1 (.t 74) (.t 75), [8, 9], none⟩⟩,
    ⟨true, ⟨(some 77), .load none (.t 76), [10], none⟩⟩,
    ⟨true, ⟨(some 78), .iaddr none 1 (.t 66) (.t 67), [0, 1, 0, 1, 4, 5, 6, 7, 11], none⟩⟩,
    ⟨false, ⟨none, .store 1 (.t 78) (.t 73), [12, 7, 0, 1, 4, 5, 6, 7, 11], none⟩⟩,
    ⟨true, ⟨(some 79), .iaddr none 1 (.t 68) (.t 69), [2, 3, 0, 1, 2, 3, 4, 5, 6, 7, 8, 9, 10, 11, 12, 13], none⟩⟩,
    ⟨false, ⟨none, .store 1 (.t 79) (.t 77), [14, 11, 13, 0, 1, 2, 3, 4, 5, 6, 7, 8, 9, 10, 11, 12, 13], none⟩⟩] [] 679905301999639410881016756337855431683)
  (.seq (.region [⟨true, ⟨(some 80), .mov (.t 11), [], none⟩⟩,
    ⟨true, ⟨(some 8), .mov (.t 80), [0, 0], none⟩⟩,
    ⟨true, ⟨(some 9), .mov (.c (.bool true)), [1, 0, 1], none⟩⟩] [] 1208925819614629174708224)
  .ret))
  .skip))
 (.seq (.region [⟨true, ⟨(some 81), .mov (.t 0), [], none⟩⟩,
   ⟨true, ⟨(some 82), .mov (.t 10), [], none⟩⟩,
   ⟨true, ⟨(some 83), .mov (.t 0), [], none⟩⟩,
   ⟨true, ⟨(some 84), .mov (.t 11), [], none⟩⟩,
   ⟨true, ⟨(some 85), .mov (.t 0), [], none⟩⟩,
   ⟨true, ⟨(some 86), .mov (.t 11), [], none⟩⟩,
   ⟨true, ⟨(some 87), .iaddr none 1 (.t 85) (.t 86), [4, 5], none⟩⟩,
   ⟨true, ⟨(some 88), .load none (.t 87), [6], none⟩⟩,
   ⟨true, ⟨(some 89), .mov (.t 0), [], none⟩⟩,
   ⟨true, ⟨(some 90), .mov (.t 10), [], none⟩⟩,
   ⟨true, ⟨(some 91), .iaddr none 1 (.t 89) (.t 90), [8, 9], none⟩⟩,
   ⟨true, ⟨(some 92), .load none (.t 91), [10], none⟩⟩,
   ⟨true, ⟨(some 93), .iaddr none 1 (.t 81) (.t 82), [0, 1, 0, 1, 4, 5, 6, 7, 11], none⟩⟩,
   ⟨false, ⟨none, .store 1 (.t 93) (.t 88), [12, 7, 0, 1, 4, 5, 6, 7, 11], none⟩⟩,
   ⟨true, ⟨(some 94), .iaddr none 1 (.t 83) (.t 84), [2, 3, 0, 1, 2, 3, 4, 5, 6, 7, 8, 9, 10, 11, 12, 13], none⟩⟩,
   ⟨false, ⟨none, .store 1 (.t 94) (.t 92), [14, 11, 13, 0, 1, 2, 3, 4, 5, 6, 7, 8, 9, 10, 11, 12, 13], none⟩⟩] [] 39611663442386427685841666816)
 (.seq (.region [⟨true, ⟨(some 95), .mov (.t 10), [], none⟩⟩,
   ⟨true, ⟨(some 96), .bin .add (.t 95) (.c (.int .i64 (.ofNat 1))), [0], none⟩⟩,
   ⟨false, ⟨(some 10), .mov (.t 96), [1, 0, 1], none⟩⟩] [] 118842243771396506390315925504)
 (.seq (.region [⟨true, ⟨(some 97), .mov (.t 11), [], none⟩⟩,
   ⟨true, ⟨(some 98), .bin .sub (.t 97) (.c (.int .i64 (.ofNat 1))), [0], none⟩⟩,
   ⟨false, ⟨(some 11), .mov (.t 98), [1, 0, 1], none⟩⟩] [] 475368975085586025561263702016)
 (.seq (.block 4 (.loop (.block 5 (.seq (.block 6 (.loop (.seq (.seq (.region [⟨true, ⟨(some 99), .mov (.t 10), [], none⟩⟩,
   ⟨true, ⟨(some 100), .mov (.t 11), [], none⟩⟩,
   ⟨true, ⟨(some 101), .bin .leq (.t 99) (.t 100), [0, 1], none⟩⟩,
   ⟨true, ⟨(some 102), .mov (.t 101), [2], none⟩⟩,
   ⟨false, ⟨(some 103), .mov (.t 0), [3], (some (102, true))⟩⟩,
   ⟨false, ⟨(some 104), .mov (.t 10), [3], (some (102, true))⟩⟩,
   ⟨false, ⟨(some 105), .iaddr none 1 (.t 103) (.t 104), [4, 5, 3], (some (102, true))⟩⟩,
   ⟨false, ⟨(some 106), .load none (.t 105), [6, 3], (some (102, true))⟩⟩,
   ⟨false, ⟨(some 107), .mov (.t 0), [3], (some (102, true))⟩⟩,
   ⟨false, ⟨(some 108), .mov (.t 1), [3], (some (102, true))⟩⟩,
   ⟨false, ⟨(some 109), .iaddr none 1 (.t 107) (.t 108), [8, 9, 3], (some (102, true))⟩⟩,
   ⟨false, ⟨(some 110), .load none (.t 109), [10, 3], (some (102, true))⟩⟩,
   ⟨false, ⟨(some 111), .call .heap (.f 91) [(.t 106), (.t 110)], [7, 11, 3, 3], (some (102, true))⟩⟩,
   ⟨true, ⟨(some 112), .pick (.t 102) (.t 111) (.c (.bool false)), [3, 12], none⟩⟩] [] 9507379501711720511225274040320)
 (.cond (.t 112)
  .skip
  (.exit 6)))
 (.block 7 (.region [⟨true, ⟨(some 113), .mov (.t 10), [], none⟩⟩,
   ⟨true, ⟨(some 114), .bin .add (.t 113) (.c (.int .i64 (.ofNat 1))), [0], none⟩⟩,
   ⟨false, ⟨(some 10), .mov (.t 114), [1, 0, 1], none⟩⟩] [] 36346078009743793399713474304540672)))))
 (.seq (.block 8 (.loop (.seq (.seq (.region [⟨true, ⟨(some 115), .mov (.t 10), [], none⟩⟩,
   ⟨true, ⟨(some 116), .mov (.t 11), [], none⟩⟩,
   ⟨true, ⟨(some 117), .bin .leq (.t 115) (.t 116), [0, 1], none⟩⟩,
   ⟨true, ⟨(some 118), .mov (.t 117), [2], none⟩⟩,
   ⟨false, ⟨(some 119), .mov (.t 0), [3], (some (118, true))⟩⟩,
   ⟨false, ⟨(some 120), .mov (.t 11), [3], (some (118, true))⟩⟩,
   ⟨false, ⟨(some 121), .iaddr none 1 (.t 119) (.t 120), [4, 5, 3], (some (118, true))⟩⟩,
   ⟨false, ⟨(some 122), .load none (.t 121), [6, 3], (some (118, true))⟩⟩,
   ⟨false, ⟨(some 123), .mov (.t 0), [3], (some (118, true))⟩⟩,
   ⟨false, ⟨(some 124), .mov (.t 1), [3], (some (118, true))⟩⟩,
   ⟨false, ⟨(some 125), .iaddr none 1 (.t 123) (.t 124), [8, 9, 3], (some (118, true))⟩⟩,
   ⟨false, ⟨(some 126), .load none (.t 125), [10, 3], (some (118, true))⟩⟩,
   ⟨false, ⟨(some 127), .call .heap (.f 91) [(.t 122), (.t 126)], [7, 11, 3, 3], (some (118, true))⟩⟩,
   ⟨false, ⟨(some 128), .un .not (.t 127), [12, 3], (some (118, true))⟩⟩,
   ⟨true, ⟨(some 129), .pick (.t 118) (.t 128) (.c (.bool false)), [3, 13], none⟩⟩] [] 623075623024179315423659559506411520)
 (.cond (.t 129)
  .skip
  (.exit 8)))
 (.block 9 (.region [⟨true, ⟨(some 130), .mov (.t 11), [], none⟩⟩,
   ⟨true, ⟨(some 131), .bin .sub (.t 130) (.c (.int .i64 (.ofNat 1))), [0], none⟩⟩,
   ⟨false, ⟨(some 11), .mov (.t 131), [1, 0, 1], none⟩⟩] [] 4763953136893138488487244504044754960384)))))
 (.seq (.seq (.region [⟨true, ⟨(some 132), .mov (.t 10), [], none⟩⟩,
   ⟨true, ⟨(some 133), .mov (.t 11), [], none⟩⟩,
   ⟨true, ⟨(some 134), .bin .gtr (.t 132) (.t 133), [0, 1], none⟩⟩] [] 16333553612205046246241981156724874149888)
 (.cond (.t 134)
  (.exit 4)
  .skip))
 (.seq (.region [⟨true, ⟨(some 135), .mov (.t 0), [], none⟩⟩,
   ⟨true, ⟨(some 136), .mov (.t 10), [], none⟩⟩,
   ⟨true, ⟨(some 137), .mov (.t 0), [], none⟩⟩,
   ⟨true, ⟨(some 138), .mov (.t 11), [], none⟩⟩,
   ⟨true, ⟨(some 139), .mov (.t 0), [], none⟩⟩,
   ⟨true, ⟨(some 140), .mov (.t 11), [], none⟩⟩,
   ⟨true, ⟨(some 141), .iaddr none 1 (.t 139) (.t 140), [4, 5], none⟩⟩,
   ⟨true, ⟨(some 142), .load none (.t 141), [6], none⟩⟩,
   ⟨true, ⟨(some 143), .mov (.t 0), [], none⟩⟩,
   ⟨true, ⟨(some 144), .mov (.t 10), [], none⟩⟩,
   ⟨true, ⟨(some 145), .iaddr none 1 (.t 143) (.t 144), [8, 9], none⟩⟩,
   ⟨true, ⟨(some 146), .load none (.t 145), [10], none⟩⟩,
   ⟨true, ⟨(some 147), .iaddr none 1 (.t 135) (.t 136), [0, 1, 0, 1, 4, 5, 6, 7, 11], none⟩⟩,
   ⟨false, ⟨none, .store 1 (.t 147) (.t 142), [12, 7, 0, 1, 4, 5, 6, 7, 11], none⟩⟩,
   ⟨true, ⟨(some 148), .iaddr none 1 (.t 137) (.t 138), [2, 3, 0, 1, 2, 3, 4, 5, 6, 7, 8, 9, 10, 11, 12, 13], none⟩⟩,
   ⟨false, ⟨none, .store 1 (.t 148) (.t 146), [14, 11, 13, 0, 1, 2, 3, 4, 5, 6, 7, 8, 9, 10, 11, 12, 13], none⟩⟩] [] 713602068281497000467481328749871935025840128)
 (.seq (.region [⟨true, ⟨(some 149), .mov (.t 10), [], none⟩⟩,
   ⟨true, ⟨(some 150), .bin .add (.t 149) (.c (.int .i64 (.ofNat 1))), [0], none⟩⟩,
   ⟨false, ⟨(some 10), .mov (.t 150), [1, 0, 1], none⟩⟩] [] 2140871539058939821587428954174242704574119936)
 (.region [⟨true, ⟨(some 151), .mov (.t 11), [], none⟩⟩,
   ⟨true, ⟨(some 152), .bin .sub (.t 151) (.c (.int .i64 (.ofNat 1))), [0], none⟩⟩,
   ⟨false, ⟨(some 11), .mov (.t 152), [1, 0, 1], none⟩⟩] [] 8563486156235759286349715816696970818296479744)))))))))
 (.seq (.region [⟨true, ⟨(some 153), .mov (.t 0), [], none⟩⟩,
   ⟨true, ⟨(some 154), .mov (.t 11), [], none⟩⟩,
   ⟨true, ⟨(some 155), .mov (.t 0), [], none⟩⟩,
   ⟨true, ⟨(some 156), .mov (.t 1), [], none⟩⟩,
   ⟨true, ⟨(some 157), .mov (.t 0), [], none⟩⟩,
   ⟨true, ⟨(some 158), .mov (.t 1), [], none⟩⟩,
   ⟨true, ⟨(some 159), .iaddr none 1 (.t 157) (.t 158), [4, 5], none⟩⟩,
   ⟨true, ⟨(some 160), .load none (.t 159), [6], none⟩⟩,
   ⟨true, ⟨(some 161), .mov (.t 0), [], none⟩⟩,
   ⟨true, ⟨(some 162), .mov (.t 11), [], none⟩⟩,
   ⟨true, ⟨(some 163), .iaddr none 1 (.t 161) (.t 162), [8, 9], none⟩⟩,
   ⟨true, ⟨(some 164), .load none (.t 163), [10], none⟩⟩,
   ⟨true, ⟨(some 165), .iaddr none 1 (.t 153) (.t 154), [0, 1, 0, 1, 4, 5, 6, 7, 11], none⟩⟩,
   ⟨false, ⟨none, .store 1 (.t 165) (.t 160), [12, 7, 0, 1, 4, 5, 6, 7, 11], none⟩⟩,
   ⟨true, ⟨(some 166), .iaddr none 1 (.t 155) (.t 156), [2, 3, 0, 1, 2, 3, 4, 5, 6, 7, 8, 9, 10, 11, 12, 13], none⟩⟩,
   ⟨false, ⟨none, .store 1 (.t 166) (.t 164), [14, 11, 13, 0, 1, 2, 3, 4, 5, 6, 7, 8, 9, 10, 11, 12, 13], none⟩⟩] [] 187060791597493831153022830501920721184724403356675)
 (.seq (.region [⟨true, ⟨(some 167), .mov (.t 11), [], none⟩⟩,
   ⟨true, ⟨(some 8), .mov (.t 167), [0, 0], none⟩⟩,
   ⟨true, ⟨(some 9), .mov (.c (.bool false)), [1, 0, 1], none⟩⟩] [] 187072209578355573530071658587684226515959365502976)
 .ret))))))))))))⟩

-- math/bits.Len32
def f94 : FFn := ⟨19, [.tmp 2],
 (.seq (.region [⟨true, ⟨(some 2), .mov (.c (.int .i64 (.ofNat 0))), [], none⟩⟩] [] 0)
 (.seq (.seq (.region [⟨true, ⟨(some 3), .mov (.t 0), [], none⟩⟩,
   ⟨true, ⟨(some 4), .bin .geq (.t 3) (.c (.int .u32 (.ofNat 65536))), [0], none⟩⟩] [] 8)
 (.cond (.t 4)
  (.seq (.region [⟨true, ⟨(some 5), .mov (.t 0), [], none⟩⟩,
    ⟨true, ⟨(some 6), .bin .shr (.t 5) (.c (.int .u64 (.ofNat 16))), [0], none⟩⟩,
    ⟨false, ⟨(some 0), .mov (.t 6), [1, 0, 1], none⟩⟩] [] 116)
  (.region [⟨true, ⟨(some 2), .mov (.c (.int .i64 (.ofNat 16))), [], none⟩⟩] [] 0))
  .skip))
 (.seq (.seq (.region [⟨true, ⟨(some 7), .mov (.t 0), [], none⟩⟩,
   ⟨true, ⟨(some 8), .bin .geq (.t 7) (.c (.int .u32 (.ofNat 256))), [0], none⟩⟩] [] 144)
 (.cond (.t 8)
  (.seq (.region [⟨true, ⟨(some 9), .mov (.t 0), [], none⟩⟩,
    ⟨true, ⟨(some 10), .bin .shr (.t 9) (.c (.int .u64 (.ofNat 8))), [0], none⟩⟩,
    ⟨false, ⟨(some 0), .mov (.t 10), [1, 0, 1], none⟩⟩] [] 1792)
  (.region [⟨true, ⟨(some 11), .mov (.t 2), [], none⟩⟩,
    ⟨true, ⟨(some 12), .bin .add (.t 11) (.c (.int .i64 (.ofNat 8))), [0], none⟩⟩,
    ⟨false, ⟨(some 2), .mov (.t 12), [1, 0, 1], none⟩⟩] [] 6144))
  .skip))
 (.seq (.region [⟨true, ⟨(some 13), .mov (.t 2), [], none⟩⟩,
   ⟨true, ⟨(some 14), .mov (.t 0), [], none⟩⟩,
   ⟨true, ⟨(some 15), .conv .u8 (.t 14), [1], none⟩⟩,
   ⟨true, ⟨(some 16), .index none (.c (.str [0, 1, 2, 2, 3, 3, 3, 3, 4, 4, 4, 4, 4, 4, 4, 4, 5, 5, 5, 5, 5, 5, 5, 5, 5, 5, 5, 5, 5, 5, 5, 5, 6, 6, 6, 6, 6, 6, 6, 6, 6, 6, 6, 6, 6, 6, 6, 6, 6, 6, 6, 6, 6, 6, 6, 6, 6, 6, 6, 6, 6, 6, 6, 6, 7, 7, 7, 7, 7, 7, 7, 7, 7, 7, 7, 7, 7, 7, 7, 7, 7, 7, 7, 7, 7, 7, 7, 7, 7, 7, 7, 7, 7, 7, 7, 7, 7, 7, 7, 7, 7, 7, 7, 7, 7, 7, 7, 7, 7, 7, 7, 7, 7, 7, 7, 7, 7, 7, 7, 7, 7, 7, 7, 7, 7, 7, 7, 7, 8, 8, 8, 8, 8, 8, 8, 8, 8, 8, 8, 8, 8, 8, 8, 8, 8, 8, 8, 8, 8, 8, 8, 8, 8, 8, 8, 8, 8, 8, 8, 8, 8, 8, 8, 8, 8, 8, 8, 8, 8, 8, 8, 8, 8, 8, 8, 8, 8, 8, 8, 8, 8, 8, 8, 8, 8, 8, 8, 8, 8, 8, 8, 8, 8, 8, 8, 8, 8, 8, 8, 8, 8, 8, 8, 8, 8, 8, 8, 8, 8, 8, 8, 8, 8, 8, 8, 8, 8, 8, 8, 8, 8, 8, 8, 8, 8, 8, 8, 8, 8, 8, 8, 8, 8, 8, 8, 8, 8, 8, 8, 8, 8, 8, 8, 8, 8, 8, 8, 8, 8, 8, 8, 8, 8, 8, 8, 8])) (.t 15), [2], none⟩⟩,
   ⟨true, ⟨(some 17), .conv .i64 (.t 16), [3], none⟩⟩,
   ⟨true, ⟨(some 18), .bin .add (.t 13) (.t 17), [0, 4], none⟩⟩,
   ⟨false, ⟨(some 2), .mov (.t 18), [5, 0, 1, 2, 3, 4, 5], none⟩⟩] [] 516353)
 .ret))))⟩

-- math/bits.Len64
def f95 : FFn := ⟨25, [.tmp 2],
 (.seq (.region [⟨true, ⟨(some 2), .mov (.c (.int .i64 (.ofNat 0))), [], none⟩⟩] [] 0)
 (.seq (.seq (.region [⟨true, ⟨(some 3), .mov (.t 0), [], none⟩⟩,
   ⟨true, ⟨(some 4), .bin .geq (.t 3) (.c (.int .u64 (.ofNat 4294967296))), [0], none⟩⟩] [] 8)
 (.cond (.t 4)
  (.seq (.region [⟨true, ⟨(some 5), .mov (.t 0), [], none⟩⟩,
    ⟨true, ⟨(some 6), .bin .shr (.t 5) (.c (.int .u64 (.ofNat 32))), [0], none⟩⟩,
    ⟨false, ⟨(some 0), .mov (.t 6), [1, 0, 1], none⟩⟩] [] 116)
  (.region [⟨true, ⟨(some 2), .mov (.c (.int .i64 (.ofNat 32))), [], none⟩⟩] [] 0))
  .skip))
 (.seq (.seq (.region [⟨true, ⟨(some 7), .mov (.t 0), [], none⟩⟩,
   ⟨true, ⟨(some 8), .bin .geq (.t 7) (.c (.int .u64 (.ofNat 65536))), [0], none⟩⟩] [] 144)
 (.cond (.t 8)
  (.seq (.region [⟨true, ⟨(some 9), .mov (.t 0), [], none⟩⟩,
    ⟨true, ⟨(some 10), .bin .shr (.t 9) (.c (.int .u64 (.ofNat 16))), [0], none⟩⟩,
    ⟨false, ⟨(some 0), .mov (.t 10), [1, 0, 1], none⟩⟩] [] 1792)
  (.region [⟨true, ⟨(some 11), .mov (.t 2), [], none⟩⟩,
    ⟨true, ⟨(some 12), .bin .add (.t 11) (.c (.int .i64 (.ofNat 16))), [0], none⟩⟩,
    ⟨false, ⟨(some 2), .mov (.t 12), [1, 0, 1], none⟩⟩] [] 6144))
  .skip))
 (.seq (.seq (.region [⟨true, ⟨(some 13), .mov (.t 0), [], none⟩⟩,
   ⟨true, ⟨(some 14), .bin .geq (.t 13) (.c (.int .u64 (.ofNat 256))), [0], none⟩⟩] [] 8448)
 (.cond (.t 14)
  (.seq (.region [⟨true, ⟨(some 15), .mov (.t 0), [], none⟩⟩,
    ⟨true, ⟨(some 16), .bin .shr (.t 15) (.c (.int .u64 (.ofNat 8))), [0], none⟩⟩,
    ⟨false, ⟨(some 0), .mov (.t 16), [1, 0, 1], none⟩⟩] [] 114688)
  (.region [⟨true, ⟨(some 17), .mov (.t 2), [], none⟩⟩,
    ⟨true, ⟨(some 18), .bin .add (.t 17) (.c (.int .i64 (.ofNat 8))), [0], none⟩⟩,
    ⟨false, ⟨(some 2), .mov (.t 18), [1, 0, 1], none⟩⟩] [] 393216))
  .skip))
 (.seq (.region [⟨true, ⟨(some 19), .mov (.t 2), [], none⟩⟩,
   ⟨true, ⟨(some 20), .mov (.t 0), [], none⟩⟩,
   ⟨true, ⟨(some 21), .conv .u8 (.t 20), [1], none⟩⟩,
   ⟨true, ⟨(some 22), .index none (.c (.str [0, 1, 2, 2, 3, 3, 3, 3, 4, 4, 4, 4, 4, 4, 4, 4, 5, 5, 5, 5, 5, 5, 5, 5, 5, 5, 5, 5, 5, 5, 5, 5, 6, 6, 6, 6, 6, 6, 6, 6, 6, 6, 6, 6, 6, 6, 6, 6, 6, 6, 6, 6, 6, 6, 6, 6, 6, 6, 6, 6, 6, 6, 6, 6, 7, 7, 7, 7, 7, 7, 7, 7, 7, 7, 7, 7, 7, 7, 7, 7, 7, 7, 7, 7, 7, 7, 7, 7, 7, 7, 7, 7, 7, 7, 7, 7, 7, 7, 7, 7, 7, 7, 7, 7, 7, 7, 7, 7, 7, 7, 7, 7, 7, 7, 7, 7, 7, 7, 7, 7, 7, 7, 7, 7, 7, 7, 7, 7, 8, 8, 8, 8, 8, 8, 8, 8, 8, 8, 8, 8, 8, 8, 8, 8, 8, 8, 8, 8, 8, 8, 8, 8, 8, 8, 8, 8, 8, 8, 8, 8, 8, 8, 8, 8, 8, 8, 8, 8, 8, 8, 8, 8, 8, 8, 8, 8, 8, 8, 8, 8, 8, 8, 8, 8, 8, 8, 8, 8, 8, 8, 8, 8, 8, 8, 8, 8, 8, 8, 8, 8, 8, 8, 8, 8, 8, 8, 8, 8, 8, 8, 8, 8, 8, 8, 8, 8, 8, 8, 8, 8, 8, 8, 8, 8, 8, 8, 8, 8, 8, 8, 8, 8, 8, 8, 8, 8, 8, 8, 8, 8, 8, 8, 8, 8, 8, 8, 8, 8, 8, 8, 8, 8, 8, 8, 8, 8])) (.t 21), [2], none⟩⟩,
   ⟨true, ⟨(some 23), .conv .i64 (.t 22), [3], none⟩⟩,
   ⟨true, ⟨(some 24), .bin .add (.t 19) (.t 23), [0, 4], none⟩⟩,
   ⟨false, ⟨(some 2), .mov (.t 24), [5, 0, 1, 2, 3, 4, 5], none⟩⟩] [] 33046529)
 .ret)))))⟩

-- internal/strconv.small
def f102 : FFn := ⟨15, [.tmp 2],
 (.seq (.region [⟨true, ⟨(some 2), .mov (.c (.str [])), [], none⟩⟩] [] 4)
 (.seq (.seq (.region [⟨true, ⟨(some 3), .mov (.t 0), [], none⟩⟩,
   ⟨true, ⟨(some 4), .bin .lss (.t 3) (.c (.int .i64 (.ofNat 10))), [0], none⟩⟩] [] 8)
 (.cond (.t 4)
  (.seq (.region [⟨true, ⟨(some 5), .mov (.t 0), [], none⟩⟩,
    ⟨true, ⟨(some 6), .mov (.t 0), [], none⟩⟩,
    ⟨true, ⟨(some 7), .bin .add (.t 6) (.c (.int .i64 (.ofNat 1))), [1], none⟩⟩,
    ⟨true, ⟨(some 8), .slice none (.c (.str [48, 49, 50, 51, 52, 53, 54, 55, 56, 57, 97, 98, 99, 100, 101, 102, 103, 104, 105, 106, 107, 108, 109, 110, 111, 112, 113, 114, 115, 116, 117, 118, 119, 120, 121, 122])) (some (.t 5)) (some (.t 7)) none, [0, 2], none⟩⟩,
    ⟨true, ⟨(some 2), .mov (.t 8), [3, 0, 1, 2, 3], none⟩⟩] [] 497)
  .ret)
  .skip))
 (.seq (.region [⟨true, ⟨(some 9), .mov (.t 0), [], none⟩⟩,
   ⟨true, ⟨(some 10), .bin .mul (.t 9) (.c (.int .i64 (.ofNat 2))), [0], none⟩⟩,
   ⟨true, ⟨(some 11), .mov (.t 0), [], none⟩⟩,
   ⟨true, ⟨(some 12), .bin .mul (.t 11) (.c (.int .i64 (.ofNat 2))), [2], none⟩⟩,
   ⟨true, ⟨(some 13), .bin .add (.t 12) (.c (.int .i64 (.ofNat 2))), [3], none⟩⟩,
   ⟨true, ⟨(some 14), .slice none (.c (.str [48, 48, 48, 49, 48, 50, 48, 51, 48, 52, 48, 53, 48, 54, 48, 55, 48, 56, 48, 57, 49, 48, 49, 49, 49, 50, 49, 51, 49, 52, 49, 53, 49, 54, 49, 55, 49, 56, 49, 57, 50, 48, 50, 49, 50, 50, 50, 51, 50, 52, 50, 53, 50, 54, 50, 55, 50, 56, 50, 57, 51, 48, 51, 49, 51, 50, 51, 51, 51, 52, 51, 53, 51, 54, 51, 55, 51, 56, 51, 57, 52, 48, 52, 49, 52, 50, 52, 51, 52, 52, 52, 53, 52, 54, 52, 55, 52, 56, 52, 57, 53, 48, 53, 49, 53, 50, 53, 51, 53, 52, 53, 53, 53, 54, 53, 55, 53, 56, 53, 57, 54, 48, 54, 49, 54, 50, 54, 51, 54, 52, 54, 53, 54, 54, 54, 55, 54, 56, 54, 57, 55, 48, 55, 49, 55, 50, 55, 51, 55, 52, 55, 53, 55, 54, 55, 55, 55, 56, 55, 57, 56, 48, 56, 49, 56, 50, 56, 51, 56, 52, 56, 53, 56, 54, 56, 55, 56, 56, 56, 57, 57, 48, 57, 49, 57, 50, 57, 51, 57, 52, 57, 53, 57, 54, 57, 55, 57, 56, 57, 57])) (some (.t 10)) (some (.t 13)) none, [1, 4], none⟩⟩,
   ⟨false, ⟨(some 2), .mov (.t 14), [5, 0, 1, 2, 3, 4, 5], none⟩⟩] [] 32273)
 .ret)))⟩

-- internal/strconv.numDigits
def f103 : FFn := ⟨15, [.tmp 2],
 (.seq (.region [⟨true, ⟨(some 2), .mov (.c (.int .i64 (.ofNat 0))), [], none⟩⟩] [] 4)
 (.seq (.region [⟨true, ⟨(some 4), .mov (.t 0), [], none⟩⟩,
   ⟨true, ⟨(some 5), .call .heap (.f 95) [(.t 4)], [0], none⟩⟩,
   ⟨true, ⟨(some 6), .call .heap (.f 113) [(.t 5)], [1, 1], none⟩⟩,
   ⟨true, ⟨(some 3), .mov (.t 6), [2, 2, 0, 1, 2], none⟩⟩] [] 112)
 (.seq (.region [⟨true, ⟨(some 7), .mov (.t 3), [], none⟩⟩,
   ⟨true, ⟨(some 8), .mov (.t 0), [], none⟩⟩,
   ⟨true, ⟨(some 9), .mov (.t 3), [], none⟩⟩,
   ⟨true, ⟨(some 10), .iaddr (some 20) 1 (.g 0) (.t 9), [2], none⟩⟩,
   ⟨true, ⟨(some 11), .load none (.t 10), [3], none⟩⟩,
   ⟨true, ⟨(some 12), .bin .geq (.t 8) (.t 11), [1, 4], none⟩⟩,
   ⟨true, ⟨(some 13), .call .heap (.f 114) [(.t 12)], [5], none⟩⟩,
   ⟨true, ⟨(some 14), .bin .add (.t 7) (.t 13), [0, 6], none⟩⟩,
   ⟨true, ⟨(some 2), .mov (.t 14), [7, 6, 0, 1, 2, 3, 4, 5, 6, 7], none⟩⟩] [] 32649)
 .ret)))⟩

-- internal/strconv.formatBase10
def f104 : FFn := ⟨167, [],
 (.seq (.region [⟨true, ⟨(some 17), .mov (.t 0), [], none⟩⟩,
   ⟨true, ⟨(some 18), .len 1 (.t 17), [0], none⟩⟩,
   ⟨true, ⟨(some 4), .mov (.t 18), [1, 0, 1], none⟩⟩] [] 393216)
 (.seq (.block 0 (.loop (.seq (.seq (.region [⟨true, ⟨(some 19), .mov (.t 4), [], none⟩⟩,
   ⟨true, ⟨(some 20), .bin .geq (.t 19) (.c (.int .i64 (.ofNat 8))), [0], none⟩⟩] [] 524288)
 (.cond (.t 20)
  .skip
  (.exit 0)))
 (.block 1 (.seq (.region [⟨true, ⟨(some 21), .mov (.t 1), [], none⟩⟩,
   ⟨true, ⟨(some 22), .bin .rem (.t 21) (.c (.int .u64 (.ofNat 100000000))), [0], none⟩⟩,
   ⟨true, ⟨(some 23), .conv .u32 (.t 22), [1], none⟩⟩,
   ⟨true, ⟨(some 5), .mov (.t 23), [2, 0, 1, 2], none⟩⟩] [] 15728640)
 (.seq (.region [⟨true, ⟨(some 24), .mov (.t 1), [], none⟩⟩,
   ⟨true, ⟨(some 25), .bin .quo (.t 24) (.c (.int .u64 (.ofNat 100000000))), [0], none⟩⟩,
   ⟨false, ⟨(some 1), .mov (.t 25), [1, 0, 1], none⟩⟩] [] 50331648)
 (.seq (.region [⟨true, ⟨(some 26), .mov (.t 5), [], none⟩⟩,
   ⟨true, ⟨(some 27), .bin .quo (.t 26) (.c (.int .u32 (.ofNat 10000))), [0], none⟩⟩,
   ⟨true, ⟨(some 28), .mov (.t 5), [], none⟩⟩,
   ⟨true, ⟨(some 29), .bin .rem (.t 28) (.c (.int .u32 (.ofNat 10000))), [2], none⟩⟩,
   ⟨true, ⟨(some 6), .mov (.t 27), [1, 0, 1], none⟩⟩,
   ⟨true, ⟨(some 7), .mov (.t 29), [3, 4, 0, 1, 2, 3, 4], none⟩⟩] [] 1006632992)
 (.seq (.region [⟨true, ⟨(some 30), .mov (.t 7), [], none⟩⟩,
   ⟨true, ⟨(some 31), .bin .quo (.t 30) (.c (.int .u32 (.ofNat 100))), [0], none⟩⟩,
   ⟨true, ⟨(some 32), .bin .mul (.t 31) (.c (.int .u32 (.ofNat 2))), [1], none⟩⟩,
   ⟨true, ⟨(some 33), .mov (.t 7), [], none⟩⟩,
   ⟨true, ⟨(some 34), .bin .rem (.t 33) (.c (.int .u32 (.ofNat 100))), [3], none⟩⟩,
   ⟨true, ⟨(some 35), .bin .mul (.t 34) (.c (.int .u32 (.ofNat 2))), [4], none⟩⟩,
   ⟨true, ⟨(some 8), .mov (.t 32), [2, 0, 1, 2], none⟩⟩,
   ⟨true, ⟨(some 9), .mov (.t 35), [5, 6, 0, 1, 2, 3, 4, 5, 6], none⟩⟩] [] 67645735040)
 (.seq (.region [⟨true, ⟨(some 36), .mov (.t 6), [], none⟩⟩,
   ⟨true, ⟨(some 37), .bin .quo (.t 36) (.c (.int .u32 (.ofNat 100))), [0], none⟩⟩,
   ⟨true, ⟨(some 38), .bin .mul (.t 37) (.c (.int .u32 (.ofNat 2))), [1], none⟩⟩,
   ⟨true, ⟨(some 39), .mov (.t 6), [], none⟩⟩,
   ⟨true, ⟨(some 40), .bin .rem (.t 39) (.c (.int .u32 (.ofNat 100))), [3], none⟩⟩,
   ⟨true, ⟨(some 41), .bin .mul (.t 40) (.c (.int .u32 (.ofNat 2))), [4], none⟩⟩,
   ⟨true, ⟨(some 10), .mov (.t 38), [2, 0, 1, 2], none⟩⟩,
   ⟨true, ⟨(some 11), .mov (.t 41), [5, 6, 0, 1, 2, 3, 4, 5, 6], none⟩⟩] [] 4329327034432)
 (.seq (.region [⟨true, ⟨(some 42), .mov (.t 0), [], none⟩⟩,
   ⟨true, ⟨(some 43), .mov (.t 4), [], none⟩⟩,
   ⟨true, ⟨(some 44), .bin .sub (.t 43) (.c (.int .i64 (.ofNat 1))), [1], none⟩⟩,
   ⟨true, ⟨(some 45), .mov (.t 0), [], none⟩⟩,
   ⟨true, ⟨(some 46), .mov (.t 4), [], none⟩⟩,
   ⟨true, ⟨(some 47), .bin .sub (.t 46) (.c (.int .i64 (.ofNat 2))), [4], none⟩⟩,
   ⟨true, ⟨(some 48), .mov (.t 9), [], none⟩⟩,
   ⟨true, ⟨(some 49), .bin .add (.t 48) (.c (.int .u32 (.ofNat 1))), [6], none⟩⟩,
   ⟨true, ⟨(some 50), .index none (.c (.str [48, 48, 48, 49, 48, 50, 48, 51, 48, 52, 48, 53, 48, 54, 48, 55, 48, 56, 48, 57, 49, 48, 49, 49, 49, 50, 49, 51, 49, 52, 49, 53, 49, 54, 49, 55, 49, 56, 49, 57, 50, 48, 50, 49, 50, 50, 50, 51, 50, 52, 50, 53, 50, 54, 50, 55, 50, 56, 50, 57, 51, 48, 51, 49, 51, 50, 51, 51, 51, 52, 51, 53, 51, 54, 51, 55, 51, 56, 51, 57, 52, 48, 52, 49, 52, 50, 52, 51, 52, 52, 52, 53, 52, 54, 52, 55, 52, 56, 52, 57, 53, 48, 53, 49, 53, 50, 53, 51, 53, 52, 53, 53, 53, 54, 53, 55, 53, 56, 53, 57, 54, 48, 54, 49, 54, 50, 54, 51, 54, 52, 54, 53, 54, 54, 54, 55, 54, 56, 54, 57, 55, 48, 55, 49, 55, 50, 55, 51, 55, 52, 55, 53, 55, 54, 55, 55, 55, 56, 55, 57, 56, 48, 56, 49, 56, 50, 56, 51, 56, 52, 56, 53, 56, 54, 56, 55, 56, 56, 56, 57, 57, 48, 57, 49, 57, 50, 57, 51, 57, 52, 57, 53, 57, 54, 57, 55, 57, 56, 57, 57])) (.t 49), [7], none⟩⟩,
   ⟨true, ⟨(some 51), .mov (.t 9), [], none⟩⟩,
   ⟨true, ⟨(some 52), .index none (.c (.str [48, 48, 48, 49, 48, 50, 48, 51, 48, 52, 48, 53, 48, 54, 48, 55, 48, 56, 48, 57, 49, 48, 49, 49, 49, 50, 49, 51, 49, 52, 49, 53, 49, 54, 49, 55, 49, 56, 49, 57, 50, 48, 50, 49, 50, 50, 50, 51, 50, 52, 50, 53, 50, 54, 50, 55, 50, 56, 50, 57, 51, 48, 51, 49, 51, 50, 51, 51, 51, 52, 51, 53, 51, 54, 51, 55, 51, 56, 51, 57, 52, 48, 52, 49, 52, 50, 52, 51, 52, 52, 52, 53, 52, 54, 52, 55, 52, 56, 52, 57, 53, 48, 53, 49, 53, 50, 53, 51, 53, 52, 53, 53, 53, 54, 53, 55, 53, 56, 53, 57, 54, 48, 54, 49, 54, 50, 54, 51, 54, 52, 54, 53, 54, 54, 54, 55, 54, 56, 54, 57, 55, 48, 55, 49, 55, 50, 55, 51, 55, 52, 55, 53, 55, 54, 55, 55, 55, 56, 55, 57, 56, 48, 56, 49, 56, 50, 56, 51, 56, 52, 56, 53, 56, 54, 56, 55, 56, 56, 56, 57, 57, 48, 57, 49, 57, 50, 57, 51, 57, 52, 57, 53, 57, 54, 57, 55, 57, 56, 57, 57])) (.t 51), [9], none⟩⟩,
   ⟨true, ⟨(some 53), .iaddr none 1 (.t 42) (.t 44), [0, 2, 0, 1, 2, 6, 7, 8], none⟩⟩,
   ⟨false, ⟨none, .store 1 (.t 53) (.t 50), [11, 8, 0, 1, 2, 6, 7, 8], none⟩⟩,
   ⟨true, ⟨(some 54), .iaddr none 1 (.t 45) (.t 47), [3, 5, 0, 1, 2, 3, 4, 5, 6, 7, 8, 9, 10, 11, 12], none⟩⟩,
   ⟨false, ⟨none, .store 1 (.t 54) (.t 52), [13, 10, 12, 0, 1, 2, 3, 4, 5, 6, 7, 8, 9, 10, 11, 12], none⟩⟩] [] 36024398972453376)
 (.seq (.region [⟨true, ⟨(some 55), .mov (.t 0), [], none⟩⟩,
   ⟨true, ⟨(some 56), .mov (.t 4), [], none⟩⟩,
   ⟨true, ⟨(some 57), .bin .sub (.t 56) (.c (.int .i64 (.ofNat 3))), [1], none⟩⟩,
   ⟨true, ⟨(some 58), .mov (.t 0), [], none⟩⟩,
   ⟨true, ⟨(some 59), .mov (.t 4), [], none⟩⟩,
   ⟨true, ⟨(some 60), .bin .sub (.t 59) (.c (.int .i64 (.ofNat 4))), [4], none⟩⟩,
   ⟨true, ⟨(some 61), .mov (.t 8), [], none⟩⟩,
   ⟨true, ⟨(some 62), .bin .add (.t 61) (.c (.int .u32 (.ofNat 1))), [6], none⟩⟩,
   ⟨true, ⟨(some 63), .index none (.c (.str [48, 48, 48, 49, 48, 50, 48, 51, 48, 52, 48, 53, 48, 54, 48, 55, 48, 56, 48, 57, 49, 48, 49, 49, 49, 50, 49, 51, 49, 52, 49, 53, 49, 54, 49, 55, 49, 56, 49, 57, 50, 48, 50, 49, 50, 50, 50, 51, 50, 52, 50, 53, 50, 54, 50, 55, 50, 56, 50, 57, 51, 48, 51, 49, 51, 50, 51, 51, 51, 52, 51, 53, 51, 54, 51, 55, 51, 56, 51, 57, 52, 48, 52, 49, 52, 50, 52, 51, 52, 52, 52, 53, 52, 54, 52, 55, 52, 56, 52, 57, 53, 48, 53, 49, 53, 50, 53, 51, 53, 52, 53, 53, 53, 54, 53, 55, 53, 56, 53, 57, 54, 48, 54, 49, 54, 50, 54, 51, 54, 52, 54, 53, 54, 54, 54, 55, 54, 56, 54, 57, 55, 48, 55, 49, 55, 50, 55, 51, 55, 52, 55, 53, 55, 54, 55, 55, 55, 56, 55, 57, 56, 48, 56, 49, 56, 50, 56, 51, 56, 52, 56, 53, 56, 54, 56, 55, 56, 56, 56, 57, 57, 48, 57, 49, 57, 50, 57, 51, 57, 52, 57, 53, 57, 54, 57, 55, 57, 56, 57, 57])) (.t 62), [7], none⟩⟩,
   ⟨true, ⟨(some 64), .mov (.t 8), [], none⟩⟩,
   ⟨true, ⟨(some 65), .index none (.c (.str [48, 48, 48, 49, 48, 50, 48, 51, 48, 52, 48, 53, 48, 54, 48, 55, 48, 56, 48, 57, 49, 48, 49, 49, 49, 50, 49, 51, 49, 52, 49, 53, 49, 54, 49, 55, 49, 56, 49, 57, 50, 48, 50, 49, 50, 50, 50, 51, 50, 52, 50, 53, 50, 54, 50, 55, 50, 56, 50, 57, 51, 48, 51, 49, 51, 50, 51, 51, 51, 52, 51, 53, 51, 54, 51, 55, 51, 56, 51, 57, 52, 48, 52, 49, 52, 50, 52, 51, 52, 52, 52, 53, 52, 54, 52, 55, 52, 56, 52, 57, 53, 48, 53, 49, 53, 50, 53, 51, 53, 52, 53, 53, 53, 54, 53, 55, 53, 56, 53, 57, 54, 48, 54, 49, 54, 50, 54, 51, 54, 52, 54, 53, 54, 54, 54, 55, 54, 56, 54, 57, 55, 48, 55, 49, 55, 50, 55, 51, 55, 52, 55, 53, 55, 54, 55, 55, 55, 56, 55, 57, 56, 48, 56, 49, 56, 50, 56, 51, 56, 52, 56, 53, 56, 54, 56, 55, 56, 56, 56, 57, 57, 48, 57, 49, 57, 50, 57, 51, 57, 52, 57, 53, 57, 54, 57, 55, 57, 56, 57, 57])) (.t 64), [9], none⟩⟩,
   ⟨true, ⟨(some 66), .iaddr none 1 (.t 55) (.t 57), [0, 2, 0, 1, 2, 6, 7, 8], none⟩⟩,
   ⟨false, ⟨none, .store 1 (.t 66) (.t 63), [11, 8, 0, 1, 2, 6, 7, 8], none⟩⟩,
   ⟨true, ⟨(some 67), .iaddr none 1 (.t 58) (.t 60), [3, 5, 0, 1, 2, 3, 4, 5, 6, 7, 8, 9, 10, 11, 12], none⟩⟩,
   ⟨false, ⟨none, .store 1 (.t 67) (.t 65), [13, 10, 12, 0, 1, 2, 3, 4, 5, 6, 7, 8, 9, 10, 11, 12], none⟩⟩] [] 295111876382333862144)
 (.seq (.region [⟨true, ⟨(some 68), .mov (.t 0), [], none⟩⟩,
   ⟨true, ⟨(some 69), .mov (.t 4), [], none⟩⟩,
   ⟨true, ⟨(some 70), .bin .sub (.t 69) (.c (.int .i64 (.ofNat 5))), [1], none⟩⟩,
   ⟨true, ⟨(some 71), .mov (.t 0), [], none⟩⟩,
   ⟨true, ⟨(some 72), .mov (.t 4), [], none⟩⟩,
   ⟨true, ⟨(some 73), .bin .sub (.t 72) (.c (.int .i64 (.ofNat 6))), [4], none⟩⟩,
   ⟨true, ⟨(some 74), .mov (.t 11), [], none⟩⟩,
   ⟨true, ⟨(some 75), .bin .add (.t 74) (.c (.int .u32 (.ofNat 1))), [6], none⟩⟩,
   ⟨true, ⟨(some 76), .index none (.c (.str [48, 48, 48, 49, 48, 50, 48, 51, 48, 52, 48, 53, 48, 54, 48, 55, 48, 56, 48, 57, 49, 48, 49, 49, 49, 50, 49, 51, 49, 52, 49, 53, 49, 54, 49, 55, 49, 56, 49, 57, 50, 48, 50, 49, 50, 50, 50, 51, 50, 52, 50, 53, 50, 54, 50, 55, 50, 56, 50, 57, 51, 48, 51, 49, 51, 50, 51, 51, 51, 52, 51, 53, 51, 54, 51, 55, 51, 56, 51, 57, 52, 48, 52, 49, 52, 50, 52, 51, 52, 52, 52, 53, 52, 54, 52, 55, 52, 56, 52, 57, 53, 48, 53, 49, 53, 50, 53, 51, 53, 52, 53, 53, 53, 54, 53, 55, 53, 56, 53, 57, 54, 48, 54, 49, 54, 50, 54, 51, 54, 52, 54, 53, 54, 54, 54, 55, 54, 56, 54, 57, 55, 48, 55, 49, 55, 50, 55, 51, 55, 52, 55, 53, 55, 54, 55, 55, 55, 56, 55, 57, 56, 48, 56, 49, 56, 50, 56, 51, 56, 52, 56, 53, 56, 54, 56, 55, 56, 56, 56, 57, 57, 48, 57, 49, 57, 50, 57, 51, 57, 52, 57, 53, 57, 54, 57, 55, 57, 56, 57, 57])) (.t 75), [7], none⟩⟩,
   ⟨true, ⟨(some 77), .mov (.t 11), [], none⟩⟩,
   ⟨true, ⟨(some 78), .index none (.c (.str [48, 48, 48, 49, 48, 50, 48, 51, 48, 52, 48, 53, 48, 54, 48, 55, 48, 56, 48, 57, 49, 48, 49, 49, 49, 50, 49, 51, 49, 52, 49, 53, 49, 54, 49, 55, 49, 56, 49, 57, 50, 48, 50, 49, 50, 50, 50, 51, 50, 52, 50, 53, 50, 54, 50, 55, 50, 56, 50, 57, 51, 48, 51, 49, 51, 50, 51, 51, 51, 52, 51, 53, 51, 54, 51, 55, 51, 56, 51, 57, 52, 48, 52, 49, 52, 50, 52, 51, 52, 52, 52, 53, 52, 54, 52, 55, 52, 56, 52, 57, 53, 48, 53, 49, 53, 50, 53, 51, 53, 52, 53, 53, 53, 54, 53, 55, 53, 56, 53, 57, 54, 48, 54, 49, 54, 50, 54, 51, 54, 52, 54, 53, 54, 54, 54, 55, 54, 56, 54, 57, 55, 48, 55, 49, 55, 50, 55, 51, 55, 52, 55, 53, 55, 54, 55, 55, 55, 56, 55, 57, 56, 48, 56, 49, 56, 50, 56, 51, 56, 52, 56, 53, 56, 54, 56, 55, 56, 56, 56, 57, 57, 48, 57, 49, 57, 50, 57, 51, 57, 52, 57, 53, 57, 54, 57, 55, 57, 56, 57, 57])) (.t 77), [9], none⟩⟩,
   ⟨true, ⟨(some 79), .iaddr none 1 (.t 68) (.t 70), [0, 2, 0, 1, 2, 6, 7, 8], none⟩⟩,
   ⟨false, ⟨none, .store 1 (.t 79) (.t 76), [11, 8, 0, 1, 2, 6, 7, 8], none⟩⟩,
   ⟨true, ⟨(some 80), .iaddr none 1 (.t 71) (.t 73), [3, 5, 0, 1, 2, 3, 4, 5, 6, 7, 8, 9, 10, 11, 12], none⟩⟩,
   ⟨false, ⟨none, .store 1 (.t 80) (.t 78), [13, 10, 12, 0, 1, 2, 3, 4, 5, 6, 7, 8, 9, 10, 11, 12], none⟩⟩] [] 2417556491324078996588544)
 (.seq (.region [⟨true, ⟨(some 81), .mov (.t 0), [], none⟩⟩,
   ⟨true, ⟨(some 82), .mov (.t 4), [], none⟩⟩,
   ⟨true, ⟨(some 83), .bin .sub (.t 82) (.c (.int .i64 (.ofNat 7))), [1], none⟩⟩,
   ⟨true, ⟨(some 84), .mov (.t 0), [], none⟩⟩,
   ⟨true, ⟨(some 85), .mov (.t 4), [], none⟩⟩,
   ⟨true, ⟨(some 86), .bin .sub (.t 85) (.c (.int .i64 (.ofNat 8))), [4], none⟩⟩,
   ⟨true, ⟨(some 87), .mov (.t 10), [], none⟩⟩,
   ⟨true, ⟨(some 88), .bin .add (.t 87) (.c (.int .u32 (.ofNat 1))), [6], none⟩⟩,
   ⟨true, ⟨(some 89), .index none (.c (.str [48, 48, 48, 49, 48, 50, 48, 51, 48, 52, 48, 53, 48, 54, 48, 55, 48, 56, 48, 57, 49, 48, 49, 49, 49, 50, 49, 51, 49, 52, 49, 53, 49, 54, 49, 55, 49, 56, 49, 57, 50, 48, 50, 49, 50, 50, 50, 51, 50, 52, 50, 53, 50, 54, 50, 55, 50, 56, 50, 57, 51, 48, 51, 49, 51, 50, 51, 51, 51, 52, 51, 53, 51, 54, 51, 55, 51, 56, 51, 57, 52, 48, 52, 49, 52, 50, 52, 51, 52, 52, 52, 53, 52, 54, 52, 55, 52, 56, 52, 57, 53, 48, 53, 49, 53, 50, 53, 51, 53, 52, 53, 53, 53, 54, 53, 55, 53, 56, 53, 57, 54, 48, 54, 49, 54, 50, 54, 51, 54, 52, 54, 53, 54, 54, 54, 55, 54, 56, 54, 57, 55, 48, 55, 49, 55, 50, 55, 51, 55, 52, 55, 53, 55, 54, 55, 55, 55, 56, 55, 57, 56, 48, 56, 49, 56, 50, 56, 51, 56, 52, 56, 53, 56, 54, 56, 55, 56, 56, 56, 57, 57, 48, 57, 49, 57, 50, 57, 51, 57, 52, 57, 53, 57, 54, 57, 55, 57, 56, 57, 57])) (.t 88), [7], none⟩⟩,
   ⟨true, ⟨(some 90), .mov (.t 10), [], none⟩⟩,
   ⟨true, ⟨(some 91), .index none (.c (.str [48, 48, 48, 49, 48, 50, 48, 51, 48, 52, 48, 53, 48, 54, 48, 55, 48, 56, 48, 57, 49, 48, 49, 49, 49, 50, 49, 51, 49, 52, 49, 53, 49, 54, 49, 55, 49, 56, 49, 57, 50, 48, 50, 49, 50, 50, 50, 51, 50, 52, 50, 53, 50, 54, 50, 55, 50, 56, 50, 57, 51, 48, 51, 49, 51, 50, 51, 51, 51, 52, 51, 53, 51, 54, 51, 55, 51, 56, 51, 57, 52, 48, 52, 49, 52, 50, 52, 51, 52, 52, 52, 53, 52, 54, 52, 55, 52, 56, 52, 57, 53, 48, 53, 49, 53, 50, 53, 51, 53, 52, 53, 53, 53, 54, 53, 55, 53, 56, 53, 57, 54, 48, 54, 49, 54, 50, 54, 51, 54, 52, 54, 53, 54, 54, 54, 55, 54, 56, 54, 57, 55, 48, 55, 49, 55, 50, 55, 51, 55, 52, 55, 53, 55, 54, 55, 55, 55, 56, 55, 57, 56, 48, 56, 49, 56, 50, 56, 51, 56, 52, 56, 53, 56, 54, 56, 55, 56, 56, 56, 57, 57, 48, 57, 49, 57, 50, 57, 51, 57, 52, 57, 53, 57, 54, 57, 55, 57, 56, 57, 57])) (.t 90), [9], none⟩⟩,
   ⟨true, ⟨(some 92), .iaddr none 1 (.t 81) (.t 83), [0, 2, 0, 1, 2, 6, 7, 8], none⟩⟩,
   ⟨false, ⟨none, .store 1 (.t 92) (.t 89), [11, 8, 0, 1, 2, 6, 7, 8], none⟩⟩,
   ⟨true, ⟨(some 93), .iaddr none 1 (.t 84) (.t 86), [3, 5, 0, 1, 2, 3, 4, 5, 6, 7, 8, 9, 10, 11, 12], none⟩⟩,
   ⟨false, ⟨none, .store 1 (.t 93) (.t 91), [13, 10, 12, 0, 1, 2, 3, 4, 5, 6, 7, 8, 9, 10, 11, 12], none⟩⟩] [] 19804622776926855140036576256)
 (.region [⟨true, ⟨(some 94), .mov (.t 4), [], none⟩⟩,
   ⟨true, ⟨(some 95), .bin .sub (.t 94) (.c (.int .i64 (.ofNat 8))), [0], none⟩⟩,
   ⟨false, ⟨(some 4), .mov (.t 95), [1, 0, 1], none⟩⟩] [] 59421121885698253195157962752))))))))))))))
 (.seq (.region [⟨true, ⟨(some 96), .mov (.t 1), [], none⟩⟩,
   ⟨true, ⟨(some 97), .conv .u32 (.t 96), [0], none⟩⟩,
   ⟨true, ⟨(some 12), .mov (.t 97), [1, 0, 1], none⟩⟩] [] 237684487542793012780631851010)
 (.seq (.seq (.region [⟨true, ⟨(some 98), .mov (.t 4), [], none⟩⟩,
   ⟨true, ⟨(some 99), .bin .geq (.t 98) (.c (.int .i64 (.ofNat 4))), [0], none⟩⟩] [] 316912650057057350374175801344)
 (.cond (.t 99)
  (.seq (.region [⟨true, ⟨(some 100), .mov (.t 12), [], none⟩⟩,
    ⟨true, ⟨(some 101), .bin .rem (.t 100) (.c (.int .u32 (.ofNat 10000))), [0], none⟩⟩,
    ⟨true, ⟨(some 13), .mov (.t 101), [1, 0, 1], none⟩⟩] [] 4436777100798802905238461218816)
  (.seq (.region [⟨true, ⟨(some 102), .mov (.t 12), [], none⟩⟩,
    ⟨true, ⟨(some 103), .bin .quo (.t 102) (.c (.int .u32 (.ofNat 10000))), [0], none⟩⟩,
    ⟨false, ⟨(some 12), .mov (.t 103), [1, 0, 1], none⟩⟩] [] 15211807202738752817960438464512)
  (.seq (.region [⟨true, ⟨(some 104), .mov (.t 13), [], none⟩⟩,
    ⟨true, ⟨(some 105), .bin .quo (.t 104) (.c (.int .u32 (.ofNat 100))), [0], none⟩⟩,
    ⟨true, ⟨(some 106), .bin .mul (.t 105) (.c (.int .u32 (.ofNat 2))), [1], none⟩⟩,
    ⟨true, ⟨(some 107), .mov (.t 13), [], none⟩⟩,
    ⟨true, ⟨(some 108), .bin .rem (.t 107) (.c (.int .u32 (.ofNat 100))), [3], none⟩⟩,
    ⟨true, ⟨(some 109), .bin .mul (.t 108) (.c (.int .u32 (.ofNat 2))), [4], none⟩⟩,
    ⟨true, ⟨(some 14), .mov (.t 106), [2, 0, 1, 2], none⟩⟩,
    ⟨true, ⟨(some 15), .mov (.t 109), [5, 6, 0, 1, 2, 3, 4, 5, 6], none⟩⟩] [] 1277791805030055236708676831027200)
  (.seq (.region [⟨true, ⟨(some 110), .mov (.t 0), [], none⟩⟩,
    ⟨true, ⟨(some 111), .mov (.t 4), [], none⟩⟩,
    ⟨true, ⟨(some 112), .bin .sub (.t 111) (.c (.int .i64 (.ofNat 1))), [1], none⟩⟩,
    ⟨true, ⟨(some 113), .mov (.t 0), [], none⟩⟩,
    ⟨true, ⟨(some 114), .mov (.t 4), [], none⟩⟩,
    ⟨true, ⟨(some 115), .bin .sub (.t 114) (.c (.int .i64 (.ofNat 2))), [4], none⟩⟩,
    ⟨true, ⟨(some 116), .mov (.t 15), [], none⟩⟩,
    ⟨true, ⟨(some 117), .bin .add (.t 116) (.c (.int .u32 (.ofNat 1))), [6], none⟩⟩,
    ⟨true, ⟨(some 118), .index none (.c (.str [48, 48, 48, 49, 48, 50, 48, 51, 48, 52, 48, 53, 48, 54, 48, 55, 48, 56, 48, 57, 49, 48, 49, 49, 49, 50, 49, 51, 49, 52, 49, 53, 49, 54, 49, 55, 49, 56, 49, 57, 50, 48, 50, 49, 50, 50, 50, 51, 50, 52, 50, 53, 50, 54, 50, 55, 50, 56, 50, 57, 51, 48, 51, 49, 51, 50, 51, 51, 51, 52, 51, 53, 51, 54, 51, 55, 51, 56, 51, 57, 52, 48, 52, 49, 52, 50, 52, 51, 52, 52, 52, 53, 52, 54, 52, 55, 52, 56, 52, 57, 53, 48, 53, 49, 53, 50, 53, 51, 53, 52, 53, 53, 53, 54, 53, 55, 53, 56, 53, 57, 54, 48, 54, 49, 54, 50, 54, 51, 54, 52, 54, 53, 54, 54, 54, 55, 54, 56, 54, 57, 55, 48, 55, 49, 55, 50, 55, 51, 55, 52, 55, 53, 55, 54, 55, 55, 55, 56, 55, 57, 56, 48, 56, 49, 56, 50, 56, 51, 56, 52, 56, 53, 56, 54, 56, 55, 56, 56, 56, 57, 57, 48, 57, 49, 57, 50, 57, 51, 57, 52, 57, 53, 57, 54, 57, 55, 57, 56, 57, 57])) (.t 117), [7], none⟩⟩,
    ⟨true, ⟨(some 119), .mov (.t 15), [], none⟩⟩,
    ⟨true, ⟨(some 120), .index none (.c (.str [48, 48, 48, 49, 48, 50, 48, 51, 48, 52, 48, 53, 48, 54, 48, 55, 48, 56, 48, 57, 49, 48, 49, 49, 49, 50, 49, 51, 49, 52, 49, 53, 49, 54, 49, 55, 49, 56, 49, 57, 50, 48, 50, 49, 50, 50, 50, 51, 50, 52, 50, 53, 50, 54, 50, 55, 50, 56, 50, 57, 51, 48, 51, 49, 51, 50, 51, 51, 51, 52, 51, 53, 51, 54, 51, 55, 51, 56, 51, 57, 52, 48, 52, 49, 52, 50, 52, 51, 52, 52, 52, 53, 52, 54, 52, 55, 52, 56, 52, 57, 53, 48, 53, 49, 53, 50, 53, 51, 53, 52, 53, 53, 53, 54, 53, 55, 53, 56, 53, 57, 54, 48, 54, 49, 54, 50, 54, 51, 54, 52, 54, 53, 54, 54, 54, 55, 54, 56, 54, 57, 55, 48, 55, 49, 55, 50, 55, 51, 55, 52, 55, 53, 55, 54, 55, 55, 55, 56, 55, 57, 56, 48, 56, 49, 56, 50, 56, 51, 56, 52, 56, 53, 56, 54, 56, 55, 56, 56, 56, 57, 57, 48, 57, 49, 57, 50, 57, 51, 57, 52, 57, 53, 57, 54, 57, 55, 57, 56, 57, 57])) (.t 119), [9], none⟩⟩,
    ⟨true, ⟨(some 121), .iaddr none 1 (.t 110) (.t 112), [0, 2, 0, 1, 2, 6, 7, 8], none⟩⟩,
    ⟨false, ⟨none, .store 1 (.t 121) (.t 118), [11, 8, 0, 1, 2, 6, 7, 8], none⟩⟩,
    ⟨true, ⟨(some 122), .iaddr none 1 (.t 113) (.t 115), [3, 5, 0, 1, 2, 3, 4, 5, 6, 7, 8, 9, 10, 11, 12], none⟩⟩,
    ⟨false, ⟨none, .store 1 (.t 122) (.t 120), [13, 10, 12, 0, 1, 2, 3, 4, 5, 6, 7, 8, 9, 10, 11, 12], none⟩⟩] [] 10632525892064693276323323858160484352)
  (.seq (.region [⟨true, ⟨(some 123), .mov (.t 0), [], none⟩⟩,
    ⟨true, ⟨(some 124), .mov (.t 4), [], none⟩⟩,
    ⟨true, ⟨(some 125), .bin .sub (.t 124) (.c (.int .i64 (.ofNat 3))), [1], none⟩⟩,
    ⟨true, ⟨(some 126), .mov (.t 0), [], none⟩⟩,
    ⟨true, ⟨(some 127), .mov (.t 4), [], none⟩⟩,
    ⟨true, ⟨(some 128), .bin .sub (.t 127) (.c (.int .i64 (.ofNat 4))), [4], none⟩⟩,
    ⟨true, ⟨(some 129), .mov (.t 14), [], none⟩⟩,
    ⟨true, ⟨(some 130), .bin .add (.t 129) (.c (.int .u32 (.ofNat 1))), [6], none⟩⟩,
    ⟨true, ⟨(some 131), .index none (.c (.str [48, 48, 48, 49, 48, 50, 48, 51, 48, 52, 48, 53, 48, 54, 48, 55, 48, 56, 48, 57, 49, 48, 49, 49, 49, 50, 49, 51, 49, 52, 49, 53, 49, 54, 49, 55, 49, 56, 49, 57, 50, 48, 50, 49, 50, 50, 50, 51, 50, 52, 50, 53, 50, 54, 50, 55, 50, 56, 50, 57, 51, 48, 51, 49, 51, 50, 51, 51, 51, 52, 51, 53, 51, 54, 51, 55, 51, 56, 51, 57, 52, 48, 52, 49, 52, 50, 52, 51, 52, 52, 52, 53, 52, 54, 52, 55, 52, 56, 52, 57, 53, 48, 53, 49, 53, 50, 53, 51, 53, 52, 53, 53, 53, 54, 53, 55, 53, 56, 53, 57, 54, 48, 54, 49, 54, 50, 54, 51, 54, 52, 54, 53, 54, 54, 54, 55, 54, 56, 54, 57, 55, 48, 55, 49, 55, 50, 55, 51, 55, 52, 55, 53, 55, 54, 55, 55, 55, 56, 55, 57, 56, 48, 56, 49, 56, 50, 56, 51, 56, 52, 56, 53, 56, 54, 56, 55, 56, 56, 56, 57, 57, 48, 57, 49, 57, 50, 57, 51, 57, 52, 57, 53, 57, 54, 57, 55, 57, 56, 57, 57])) (.t 130), [7], none⟩⟩,
    ⟨true, ⟨(some 132), .mov (.t 14), [], none⟩⟩,
    ⟨true, ⟨(some 133), .index none (.c (.str [48, 48, 48, 49, 48, 50, 48, 51, 48, 52, 48, 53, 48, 54, 48, 55, 48, 56, 48, 57, 49, 48, 49, 49, 49, 50, 49, 51, 49, 52, 49, 53, 49, 54, 49, 55, 49, 56, 49, 57, 50, 48, 50, 49, 50, 50, 50, 51, 50, 52, 50, 53, 50, 54, 50, 55, 50, 56, 50, 57, 51, 48, 51, 49, 51, 50, 51, 51, 51, 52, 51, 53, 51, 54, 51, 55, 51, 56, 51, 57, 52, 48, 52, 49, 52, 50, 52, 51, 52, 52, 52, 53, 52, 54, 52, 55, 52, 56, 52, 57, 53, 48, 53, 49, 53, 50, 53, 51, 53, 52, 53, 53, 53, 54, 53, 55, 53, 56, 53, 57, 54, 48, 54, 49, 54, 50, 54, 51, 54, 52, 54, 53, 54, 54, 54, 55, 54, 56, 54, 57, 55, 48, 55, 49, 55, 50, 55, 51, 55, 52, 55, 53, 55, 54, 55, 55, 55, 56, 55, 57, 56, 48, 56, 49, 56, 50, 56, 51, 56, 52, 56, 53, 56, 54, 56, 55, 56, 56, 56, 57, 57, 48, 57, 49, 57, 50, 57, 51, 57, 52, 57, 53, 57, 54, 57, 55, 57, 56, 57, 57])) (.t 132), [9], none⟩⟩,
    ⟨true, ⟨(some 134), .iaddr none 1 (.t 123) (.t 125), [0, 2, 0, 1, 2, 6, 7, 8], none⟩⟩,
    ⟨false, ⟨none, .store 1 (.t 134) (.t 131), [11, 8, 0, 1, 2, 6, 7, 8], none⟩⟩,
    ⟨true, ⟨(some 135), .iaddr none 1 (.t 126) (.t 128), [3, 5, 0, 1, 2, 3, 4, 5, 6, 7, 8, 9, 10, 11, 12], none⟩⟩,
    ⟨false, ⟨none, .store 1 (.t 135) (.t 133), [13, 10, 12, 0, 1, 2, 3, 4, 5, 6, 7, 8, 9, 10, 11, 12], none⟩⟩] [] 87101652107793967319640669046050419392512)
  (.region [⟨true, ⟨(some 136), .mov (.t 4), [], none⟩⟩,
    ⟨true, ⟨(some 137), .bin .sub (.t 136) (.c (.int .i64 (.ofNat 4))), [0], none⟩⟩,
    ⟨false, ⟨(some 4), .mov (.t 137), [1, 0, 1], none⟩⟩] [] 261336857795280739939871698507597986398208))))))
  .skip))
 (.seq (.seq (.region [⟨true, ⟨(some 138), .mov (.t 4), [], none⟩⟩,
   ⟨true, ⟨(some 139), .bin .geq (.t 138) (.c (.int .i64 (.ofNat 2))), [0], none⟩⟩] [] 348449143727674811886609712710879000133632)
 (.cond (.t 139)
  (.seq (.region [⟨true, ⟨(some 140), .mov (.t 12), [], none⟩⟩,
    ⟨true, ⟨(some 141), .bin .rem (.t 140) (.c (.int .u32 (.ofNat 100))), [0], none⟩⟩,
    ⟨true, ⟨(some 142), .bin .mul (.t 141) (.c (.int .u32 (.ofNat 2))), [1], none⟩⟩,
    ⟨true, ⟨(some 16), .mov (.t 142), [2, 0, 1, 2], none⟩⟩] [] 10453474311811229597594867940303919455928320)
  (.seq (.region [⟨true, ⟨(some 143), .mov (.t 12), [], none⟩⟩,
    ⟨true, ⟨(some 144), .bin .quo (.t 143) (.c (.int .u32 (.ofNat 100))), [0], none⟩⟩,
    ⟨false, ⟨(some 12), .mov (.t 144), [1, 0, 1], none⟩⟩] [] 33451117797795934712303577408972542258970624)
  (.seq (.region [⟨true, ⟨(some 145), .mov (.t 0), [], none⟩⟩,
    ⟨true, ⟨(some 146), .mov (.t 4), [], none⟩⟩,
    ⟨true, ⟨(some 147), .bin .sub (.t 146) (.c (.int .i64 (.ofNat 1))), [1], none⟩⟩,
    ⟨true, ⟨(some 148), .mov (.t 0), [], none⟩⟩,
    ⟨true, ⟨(some 149), .mov (.t 4), [], none⟩⟩,
    ⟨true, ⟨(some 150), .bin .sub (.t 149) (.c (.int .i64 (.ofNat 2))), [4], none⟩⟩,
    ⟨true, ⟨(some 151), .mov (.t 16), [], none⟩⟩,
    ⟨true, ⟨(some 152), .bin .add (.t 151) (.c (.int .u32 (.ofNat 1))), [6], none⟩⟩,
    ⟨true, ⟨(some 153), .index none (.c (.str [48, 48, 48, 49, 48, 50, 48, 51, 48, 52, 48, 53, 48, 54, 48, 55, 48, 56, 48, 57, 49, 48, 49, 49, 49, 50, 49, 51, 49, 52, 49, 53, 49, 54, 49, 55, 49, 56, 49, 57, 50, 48, 50, 49, 50, 50, 50, 51, 50, 52, 50, 53, 50, 54, 50, 55, 50, 56, 50, 57, 51, 48, 51, 49, 51, 50, 51, 51, 51, 52, 51, 53, 51, 54, 51, 55, 51, 56, 51, 57, 52, 48, 52, 49, 52, 50, 52, 51, 52, 52, 52, 53, 52, 54, 52, 55, 52, 56, 52, 57, 53, 48, 53, 49, 53, 50, 53, 51, 53, 52, 53, 53, 53, 54, 53, 55, 53, 56, 53, 57, 54, 48, 54, 49, 54, 50, 54, 51, 54, 52, 54, 53, 54, 54, 54, 55, 54, 56, 54, 57, 55, 48, 55, 49, 55, 50, 55, 51, 55, 52, 55, 53, 55, 54, 55, 55, 55, 56, 55, 57, 56, 48, 56, 49, 56, 50, 56, 51, 56, 52, 56, 53, 56, 54, 56, 55, 56, 56, 56, 57, 57, 48, 57, 49, 57, 50, 57, 51, 57, 52, 57, 53, 57, 54, 57, 55, 57, 56, 57, 57])) (.t 152), [7], none⟩⟩,
    ⟨true, ⟨(some 154), .mov (.t 16), [], none⟩⟩,
    ⟨true, ⟨(some 155), .index none (.c (.str [48, 48, 48, 49, 48, 50, 48, 51, 48, 52, 48, 53, 48, 54, 48, 55, 48, 56, 48, 57, 49, 48, 49, 49, 49, 50, 49, 51, 49, 52, 49, 53, 49, 54, 49, 55, 49, 56, 49, 57, 50, 48, 50, 49, 50, 50, 50, 51, 50, 52, 50, 53, 50, 54, 50, 55, 50, 56, 50, 57, 51, 48, 51, 49, 51, 50, 51, 51, 51, 52, 51, 53, 51, 54, 51, 55, 51, 56, 51, 57, 52, 48, 52, 49, 52, 50, 52, 51, 52, 52, 52, 53, 52, 54, 52, 55, 52, 56, 52, 57, 53, 48, 53, 49, 53, 50, 53, 51, 53, 52, 53, 53, 53, 54, 53, 55, 53, 56, 53, 57, 54, 48, 54, 49, 54, 50, 54, 51, 54, 52, 54, 53, 54, 54, 54, 55, 54, 56, 54, 57, 55, 48, 55, 49, 55, 50, 55, 51, 55, 52, 55, 53, 55, 54, 55, 55, 55, 56, 55, 57, 56, 48, 56, 49, 56, 50, 56, 51, 56, 52, 56, 53, 56, 54, 56, 55, 56, 56, 56, 57, 57, 48, 57, 49, 57, 50, 57, 51, 57, 52, 57, 53, 57, 54, 57, 55, 57, 56, 57, 57])) (.t 154), [9], none⟩⟩,
    ⟨true, ⟨(some 156), .iaddr none 1 (.t 145) (.t 147), [0, 2, 0, 1, 2, 6, 7, 8], none⟩⟩,
    ⟨false, ⟨none, .store 1 (.t 156) (.t 153), [11, 8, 0, 1, 2, 6, 7, 8], none⟩⟩,
    ⟨true, ⟨(some 157), .iaddr none 1 (.t 148) (.t 150), [3, 5, 0, 1, 2, 3, 4, 5, 6, 7, 8, 9, 10, 11, 12], none⟩⟩,
    ⟨false, ⟨none, .store 1 (.t 157) (.t 155), [13, 10, 12, 0, 1, 2, 3, 4, 5, 6, 7, 8, 9, 10, 11, 12], none⟩⟩] [] 365330807842328668304638136742525458190971240448)
  (.region [⟨true, ⟨(some 158), .mov (.t 4), [], none⟩⟩,
    ⟨true, ⟨(some 159), .bin .sub (.t 158) (.c (.int .i64 (.ofNat 2))), [0], none⟩⟩,
    ⟨false, ⟨(some 4), .mov (.t 159), [1, 0, 1], none⟩⟩] [] 1096126227998177188652763624537212264741949407232))))
  .skip))
 (.seq (.region [⟨true, ⟨(some 160), .mov (.t 4), [], none⟩⟩,
   ⟨true, ⟨(some 161), .bin .gtr (.t 160) (.c (.int .i64 (.ofNat 0))), [0], none⟩⟩] [] 1461502334229190372285658005707479039917229604880)
 (.cond (.t 161)
  (.region [⟨true, ⟨(some 162), .mov (.t 0), [], none⟩⟩,
    ⟨true, ⟨(some 163), .mov (.t 12), [], none⟩⟩,
    ⟨true, ⟨(some 164), .bin .add (.c (.int .u32 (.ofNat 48))) (.t 163), [1], none⟩⟩,
    ⟨true, ⟨(some 165), .conv .u8 (.t 164), [2], none⟩⟩,
    ⟨true, ⟨(some 166), .iaddr none 1 (.t 162) (.c (.int .i64 (.ofNat 0))), [0, 0, 1, 2, 3], none⟩⟩,
    ⟨false, ⟨none, .store 1 (.t 166) (.t 165), [4, 3, 0, 1, 2, 3], none⟩⟩] [] 184149206303693767693664288922251660476647500419073)
  .skip)))))))⟩

-- internal/strconv.formatBits
def f105 : FFn := ⟨102, [.tmp 10, .tmp 11],
 (.seq (.region [⟨true, ⟨(some 10), .mov (.c .nilsl), [], none⟩⟩,
   ⟨true, ⟨(some 11), .mov (.c (.str [])), [0], none⟩⟩] [] 0)
 (.seq (.seq (.region [⟨true, ⟨(some 19), .mov (.t 2), [], none⟩⟩,
   ⟨true, ⟨(some 20), .bin .lss (.t 19) (.c (.int .i64 (.ofNat 2))), [0], none⟩⟩,
   ⟨true, ⟨(some 21), .mov (.t 20), [1], none⟩⟩,
   ⟨true, ⟨(some 22), .mov (.t 2), [2], (some (21, false))⟩⟩,
   ⟨true, ⟨(some 23), .bin .eql (.t 22) (.c (.int .i64 (.ofNat 10))), [3, 2], (some (21, false))⟩⟩,
   ⟨true, ⟨(some 24), .pick (.t 21) (.c (.bool true)) (.t 23), [2, 4], none⟩⟩,
   ⟨true, ⟨(some 25), .mov (.t 24), [5, 2], none⟩⟩,
   ⟨true, ⟨(some 26), .mov (.t 2), [6], (some (25, false))⟩⟩,
   ⟨true, ⟨(some 27), .bin .gtr (.t 26) (.c (.int .i64 (.ofNat 36))), [7, 6], (some (25, false))⟩⟩,
   ⟨true, ⟨(some 28), .pick (.t 25) (.c (.bool true)) (.t 27), [6, 8], none⟩⟩] [] 267911168)
 (.cond (.t 28)
  (.region [⟨true, ⟨(some 29), .bad, [], none⟩⟩,
    ⟨false, ⟨none, .bad, [0], none⟩⟩] [] 805306368)
  .skip))
 (.seq (.region [⟨true, ⟨(some 12), .alloc .dyn (.agg [(.int .u8 (.ofNat 0)), (.int .u8 (.ofNat 0)), (.int .u8 (.ofNat 0)), (.int .u8 (.ofNat 0)), (.int .u8 (.ofNat 0)), (.int .u8 (.ofNat 0)), (.int .u8 (.ofNat 0)), (.int .u8 (.ofNat 0)), (.int .u8 (.ofNat 0)), (.int .u8 (.ofNat 0)), (.int .u8 (.ofNat 0)), (.int .u8 (.ofNat 0)), (.int .u8 (.ofNat 0)), (.int .u8 (.ofNat 0)), (.int .u8 (.ofNat 0)), (.int .u8 (.ofNat 0)), (.int .u8 (.ofNat 0)), (.int .u8 (.ofNat 0)), (.int .u8 (.ofNat 0)), (.int .u8 (.ofNat 0)), (.int .u8 (.ofNat 0)), (.int .u8 (.ofNat 0)), (.int .u8 (.ofNat 0)), (.int .u8 (.ofNat 0)), (.int .u8 (.ofNat 0)), (.int .u8 (.ofNat 0)), (.int .u8 (.ofNat 0)), (.int .u8 (.ofNat 0)), (.int .u8 (.ofNat 0)), (.int .u8 (.ofNat 0)), (.int .u8 (.ofNat 0)), (.int .u8 (.ofNat 0)), (.int .u8 (.ofNat 0)), (.int .u8 (.ofNat 0)), (.int .u8 (.ofNat 0)), (.int .u8 (.ofNat 0)), (.int .u8 (.ofNat 0)), (.int .u8 (.ofNat 0)), (.int .u8 (.ofNat 0)), (.int .u8 (.ofNat 0)), (.int .u8 (.ofNat 0)), (.int .u8 (.ofNat 0)), (.int .u8 (.ofNat 0)), (.int .u8 (.ofNat 0)), (.int .u8 (.ofNat 0)), (.int .u8 (.ofNat 0)), (.int .u8 (.ofNat 0)), (.int .u8 (.ofNat 0)), (.int .u8 (.ofNat 0)), (.int .u8 (.ofNat 0)), (.int .u8 (.ofNat 0)), (.int .u8 (.ofNat 0)), (.int .u8 (.ofNat 0)), (.int .u8 (.ofNat 0)), (.int .u8 (.ofNat 0)), (.int .u8 (.ofNat 0)), (.int .u8 (.ofNat 0)), (.int .u8 (.ofNat 0)), (.int .u8 (.ofNat 0)), (.int .u8 (.ofNat 0)), (.int .u8 (.ofNat 0)), (.int .u8 (.ofNat 0)), (.int .u8 (.ofNat 0)), (.int .u8 (.ofNat 0)), (.int .u8 (.ofNat 0))]), [], none⟩⟩] [] 268435456)
 (.seq (.region [⟨true, ⟨(some 13), .mov (.c (.int .i64 (.ofNat 65))), [], none⟩⟩] [] 0)
 (.seq (.seq (.region [⟨true, ⟨(some 30), .mov (.t 3), [], none⟩⟩] [] 0)
 (.cond (.t 30)
  (.region [⟨true, ⟨(some 31), .mov (.t 1), [], none⟩⟩,
    ⟨true, ⟨(some 32), .un .neg (.t 31), [0], none⟩⟩,
    ⟨false, ⟨(some 1), .mov (.t 32), [1, 0, 1], none⟩⟩] [] 7516192768)
  .skip))
 (.seq (.seq (.region [⟨true, ⟨(some 33), .mov (.t 2), [], none⟩⟩,
   ⟨true, ⟨(some 34), .call .heap (.f 115) [(.t 33)], [0], none⟩⟩] [] 9663676416)
 (.cond (.t 34)
  (.seq (.region [⟨true, ⟨(some 35), .mov (.t 2), [], none⟩⟩,
    ⟨true, ⟨(some 36), .conv .u64 (.t 35), [0], none⟩⟩,
    ⟨true, ⟨(some 37), .call .heap (.f 116) [(.t 36)], [1], none⟩⟩,
    ⟨true, ⟨(some 38), .conv .u64 (.t 37), [2], none⟩⟩,
    ⟨true, ⟨(some 14), .mov (.t 38), [3, 2, 0, 1, 2, 3], none⟩⟩] [] 532575944704)
  (.seq (.region [⟨true, ⟨(some 39), .mov (.t 2), [], none⟩⟩,
    ⟨true, ⟨(some 40), .conv .u64 (.t 39), [0], none⟩⟩,
    ⟨true, ⟨(some 15), .mov (.t 40), [1, 0, 1], none⟩⟩] [] 1649267441664)
  (.seq (.region [⟨true, ⟨(some 41), .mov (.t 2), [], none⟩⟩,
    ⟨true, ⟨(some 42), .conv .u64 (.t 41), [0], none⟩⟩,
    ⟨true, ⟨(some 43), .bin .sub (.t 42) (.c (.int .u64 (.ofNat 1))), [1], none⟩⟩,
    ⟨true, ⟨(some 16), .mov (.t 43), [2, 0, 1, 2], none⟩⟩] [] 15393162788868)
  (.seq (.block 0 (.loop (.seq (.seq (.region [⟨true, ⟨(some 44), .mov (.t 1), [], none⟩⟩,
    ⟨true, ⟨(some 45), .mov (.t 15), [], none⟩⟩,
    ⟨true, ⟨(some 46), .bin .geq (.t 44) (.t 45), [0, 1], none⟩⟩] [] 52776558133248)
  (.cond (.t 46)
   .skip
   (.exit 0)))
  (.block 1 (.seq (.region [⟨true, ⟨(some 47), .mov (.t 13), [], none⟩⟩,
    ⟨true, ⟨(some 48), .bin .sub (.t 47) (.c (.int .i64 (.ofNat 1))), [0], none⟩⟩,
    ⟨false, ⟨(some 13), .mov (.t 48), [1, 0, 1], none⟩⟩] [] 492581209243648)
  (.seq (.region [⟨true, ⟨(some 49), .mov (.t 13), [], none⟩⟩,
    ⟨true, ⟨(some 50), .mov (.t 1), [], none⟩⟩,
    ⟨true, ⟨(some 51), .mov (.t 16), [], none⟩⟩,
    ⟨true, ⟨(some 52), .bin .and (.t 50) (.t 51), [1, 2], none⟩⟩,
    ⟨true, ⟨(some 53), .index none (.c (.str [48, 49, 50, 51, 52, 53, 54, 55, 56, 57, 97, 98, 99, 100, 101, 102, 103, 104, 105, 106, 107, 108, 109, 110, 111, 112, 113, 114, 115, 116, 117, 118, 119, 120, 121, 122])) (.t 52), [3], none⟩⟩,
    ⟨true, ⟨(some 54), .iaddr (some 65) 1 (.t 12) (.t 49), [0, 0, 1, 2, 3, 4], none⟩⟩,
    ⟨false, ⟨none, .store 1 (.t 54) (.t 53), [5, 4, 0, 1, 2, 3, 4], none⟩⟩] [] 35465847065542656)
  (.region [⟨true, ⟨(some 55), .mov (.t 1), [], none⟩⟩,
    ⟨true, ⟨(some 56), .mov (.t 14), [], none⟩⟩,
    ⟨true, ⟨(some 57), .bin .shr (.t 55) (.t 56), [0, 1], none⟩⟩,
    ⟨false, ⟨(some 1), .mov (.t 57), [2, 0, 1, 2], none⟩⟩] [] 252201579132747776)))))))
  (.seq (.region [⟨true, ⟨(some 58), .mov (.t 13), [], none⟩⟩,
    ⟨true, ⟨(some 59), .bin .sub (.t 58) (.c (.int .i64 (.ofNat 1))), [0], none⟩⟩,
    ⟨false, ⟨(some 13), .mov (.t 59), [1, 0, 1], none⟩⟩] [] 864691128455249920)
  (.region [⟨true, ⟨(some 60), .mov (.t 13), [], none⟩⟩,
    ⟨true, ⟨(some 61), .mov (.t 1), [], none⟩⟩,
    ⟨true, ⟨(some 62), .index none (.c (.str [48, 49, 50, 51, 52, 53, 54, 55, 56, 57, 97, 98, 99, 100, 101, 102, 103, 104, 105, 106, 107, 108, 109, 110, 111, 112, 113, 114, 115, 116, 117, 118, 119, 120, 121, 122])) (.t 61), [1], none⟩⟩,
    ⟨true, ⟨(some 63), .iaddr (some 65) 1 (.t 12) (.t 60), [0, 0, 1, 2], none⟩⟩,
    ⟨false, ⟨none, .store 1 (.t 63) (.t 62), [3, 2, 0, 1, 2], none⟩⟩] [] 17293822569102704642))))))
  (.seq (.region [⟨true, ⟨(some 64), .mov (.t 2), [], none⟩⟩,
    ⟨true, ⟨(some 65), .conv .u64 (.t 64), [0], none⟩⟩,
    ⟨true, ⟨(some 17), .mov (.t 65), [1, 0, 1], none⟩⟩] [] 55340232238308524036)
  (.seq (.block 2 (.loop (.seq (.seq (.region [⟨true, ⟨(some 66), .mov (.t 1), [], none⟩⟩,
    ⟨true, ⟨(some 67), .mov (.t 17), [], none⟩⟩,
    ⟨true, ⟨(some 68), .bin .geq (.t 66) (.t 67), [0, 1], none⟩⟩] [] 221360928884514619392)
  (.cond (.t 68)
   .skip
   (.exit 2)))
  (.block 3 (.seq (.region [⟨true, ⟨(some 69), .mov (.t 13), [], none⟩⟩,
    ⟨true, ⟨(some 70), .bin .sub (.t 69) (.c (.int .i64 (.ofNat 1))), [0], none⟩⟩,
    ⟨false, ⟨(some 13), .mov (.t 70), [1, 0, 1], none⟩⟩] [] 2066035336255469780992)
  (.seq (.region [⟨true, ⟨(some 71), .mov (.t 1), [], none⟩⟩,
    ⟨true, ⟨(some 72), .mov (.t 17), [], none⟩⟩,
    ⟨true, ⟨(some 73), .bin .quo (.t 71) (.t 72), [0, 1], none⟩⟩,
    ⟨true, ⟨(some 18), .mov (.t 73), [2, 0, 1, 2], none⟩⟩] [] 16528282690043758247936)
  (.seq (.region [⟨true, ⟨(some 74), .mov (.t 13), [], none⟩⟩,
    ⟨true, ⟨(some 75), .mov (.t 1), [], none⟩⟩,
    ⟨true, ⟨(some 76), .mov (.t 18), [], none⟩⟩,
    ⟨true, ⟨(some 77), .mov (.t 17), [], none⟩⟩,
    ⟨true, ⟨(some 78), .bin .mul (.t 76) (.t 77), [2, 3], none⟩⟩,
    ⟨true, ⟨(some 79), .bin .sub (.t 75) (.t 78), [1, 4], none⟩⟩,
    ⟨true, ⟨(some 80), .index none (.c (.str [48, 49, 50, 51, 52, 53, 54, 55, 56, 57, 97, 98, 99, 100, 101, 102, 103, 104, 105, 106, 107, 108, 109, 110, 111, 112, 113, 114, 115, 116, 117, 118, 119, 120, 121, 122])) (.t 79), [5], none⟩⟩,
    ⟨true, ⟨(some 81), .iaddr (some 65) 1 (.t 12) (.t 74), [0, 0, 1, 2, 3, 4, 5, 6], none⟩⟩,
    ⟨false, ⟨none, .store 1 (.t 81) (.t 80), [7, 6, 0, 1, 2, 3, 4, 5, 6], none⟩⟩] [] 4816813812527038117969922)
  (.region [⟨true, ⟨(some 82), .mov (.t 18), [], none⟩⟩,
    ⟨true, ⟨(some 1), .mov (.t 82), [0, 0], none⟩⟩] [] 4835703278458516699086848))))))))
  (.seq (.region [⟨true, ⟨(some 83), .mov (.t 13), [], none⟩⟩,
    ⟨true, ⟨(some 84), .bin .sub (.t 83) (.c (.int .i64 (.ofNat 1))), [0], none⟩⟩,
    ⟨false, ⟨(some 13), .mov (.t 84), [1, 0, 1], none⟩⟩] [] 29014219670751100193079296)
  (.region [⟨true, ⟨(some 85), .mov (.t 13), [], none⟩⟩,
    ⟨true, ⟨(some 86), .mov (.t 1), [], none⟩⟩,
    ⟨true, ⟨(some 87), .index none (.c (.str [48, 49, 50, 51, 52, 53, 54, 55, 56, 57, 97, 98, 99, 100, 101, 102, 103, 104, 105, 106, 107, 108, 109, 110, 111, 112, 113, 114, 115, 116, 117, 118, 119, 120, 121, 122])) (.t 86), [1], none⟩⟩,
    ⟨true, ⟨(some 88), .iaddr (some 65) 1 (.t 12) (.t 85), [0, 0, 1, 2], none⟩⟩,
    ⟨false, ⟨none, .store 1 (.t 88) (.t 87), [3, 2, 0, 1, 2], none⟩⟩] [] 580284393415022003858964482))))))
 (.seq (.seq (.region [⟨true, ⟨(some 89), .mov (.t 3), [], none⟩⟩] [] 8)
 (.cond (.t 89)
  (.seq (.region [⟨true, ⟨(some 90), .mov (.t 13), [], none⟩⟩,
    ⟨true, ⟨(some 91), .bin .sub (.t 90) (.c (.int .i64 (.ofNat 1))), [0], none⟩⟩,
    ⟨false, ⟨(some 13), .mov (.t 91), [1, 0, 1], none⟩⟩] [] 4332790137498830962146934784)
  (.region [⟨true, ⟨(some 92), .mov (.t 13), [], none⟩⟩,
    ⟨true, ⟨(some 93), .iaddr (some 65) 1 (.t 12) (.t 92), [0, 0], none⟩⟩,
    ⟨false, ⟨none, .store 1 (.t 93) (.c (.int .u8 (.ofNat 45))), [1, 0], none⟩⟩] [] 14855280471424563298789494784))
  .skip))
 (.seq (.seq (.region [⟨true, ⟨(some 94), .mov (.t 4), [], none⟩⟩] [] 618970019642690137449566224)
 (.cond (.t 94)
  (.seq (.region [⟨true, ⟨(some 95), .mov (.t 0), [], none⟩⟩,
    ⟨true, ⟨(some 96), .mov (.t 13), [], none⟩⟩,
    ⟨true, ⟨(some 97), .bad, [1], none⟩⟩,
    ⟨true, ⟨(some 98), .append .dyn 1 1 (.t 95) (.t 97), [0, 2], none⟩⟩,
    ⟨false, ⟨(some 10), .mov (.t 98), [3, 3, 0, 1, 2, 3], none⟩⟩] [] 614018259485548616349965623297)
  .ret)
  .skip))
 (.seq (.region [⟨true, ⟨(some 99), .mov (.t 13), [], none⟩⟩,
   ⟨true, ⟨(some 100), .bad, [0], none⟩⟩,
   ⟨true, ⟨(some 101), .bad, [1], none⟩⟩,
   ⟨false, ⟨(some 11), .mov (.t 101), [2, 0, 1, 2], none⟩⟩] [] 4456584141427368989636847214593)
 .ret)))))))))⟩

-- slices.siftDownOrdered[int]
def f106 : FFn := ⟨76, [],
 (.seq (.region [⟨true, ⟨(some 10), .mov (.t 1), [], none⟩⟩,
   ⟨true, ⟨(some 8), .mov (.t 10), [0, 0], none⟩⟩] [] 1026)
 (.block 0 (.loop (.block 1 (.seq (.region [⟨true, ⟨(some 11), .mov (.t 8), [], none⟩⟩,
   ⟨true, ⟨(some 12), .bin .mul (.c (.int .i64 (.ofNat 2))) (.t 11), [0], none⟩⟩,
   ⟨true, ⟨(some 13), .bin .add (.t 12) (.c (.int .i64 (.ofNat 1))), [1], none⟩⟩,
   ⟨true, ⟨(some 9), .mov (.t 13), [2, 0, 1, 2], none⟩⟩] [] 14336)
 (.seq (.seq (.region [⟨true, ⟨(some 14), .mov (.t 9), [], none⟩⟩,
   ⟨true, ⟨(some 15), .mov (.t 2), [], none⟩⟩,
   ⟨true, ⟨(some 16), .bin .geq (.t 14) (.t 15), [0, 1], none⟩⟩] [] 49152)
 (.cond (.t 16)
  (.exit 0)
  .skip))
 (.seq (.seq (.region [⟨true, ⟨(some 17), .mov (.t 9), [], none⟩⟩,
   ⟨true, ⟨(some 18), .bin .add (.t 17) (.c (.int .i64 (.ofNat 1))), [0], none⟩⟩,
   ⟨true, ⟨(some 19), .mov (.t 2), [], none⟩⟩,
   ⟨true, ⟨(some 20), .bin .lss (.t 18) (.t 19), [1, 2], none⟩⟩,
   ⟨true, ⟨(some 21), .mov (.t 20), [3], none⟩⟩,
   ⟨false, ⟨(some 22), .mov (.t 0), [4], (some (21, true))⟩⟩,
   ⟨false, ⟨(some 23), .mov (.t 3), [4], (some (21, true))⟩⟩,
   ⟨false, ⟨(some 24), .mov (.t 9), [4], (some (21, true))⟩⟩,
   ⟨false, ⟨(some 25), .bin .add (.t 23) (.t 24), [6, 7, 4], (some (21, true))⟩⟩,
   ⟨false, ⟨(some 26), .iaddr none 1 (.t 22) (.t 25), [5, 8, 4], (some (21, true))⟩⟩,
   ⟨false, ⟨(some 27), .load none (.t 26), [9, 4], (some (21, true))⟩⟩,
   ⟨false, ⟨(some 28), .mov (.t 0), [4], (some (21, true))⟩⟩,
   ⟨false, ⟨(some 29), .mov (.t 3), [4], (some (21, true))⟩⟩,
   ⟨false, ⟨(some 30), .mov (.t 9), [4], (some (21, true))⟩⟩,
   ⟨false, ⟨(some 31), .bin .add (.t 29) (.t 30), [12, 13, 4], (some (21, true))⟩⟩,
   ⟨false, ⟨(some 32), .bin .add (.t 31) (.c (.int .i64 (.ofNat 1))), [14, 4], (some (21, true))⟩⟩,
   ⟨false, ⟨(some 33), .iaddr none 1 (.t 28) (.t 32), [11, 15, 4], (some (21, true))⟩⟩,
   ⟨false, ⟨(some 34), .load none (.t 33), [16, 4], (some (21, true))⟩⟩,
   ⟨false, ⟨(some 35), .call .heap (.f 91) [(.t 27), (.t 34)], [10, 17, 4, 4], (some (21, true))⟩⟩,
   ⟨true, ⟨(some 36), .pick (.t 21) (.t 35) (.c (.bool false)), [4, 18], none⟩⟩] [] 4128768)
 (.cond (.t 36)
  (.region [⟨true, ⟨(some 37), .mov (.t 9), [], none⟩⟩,
    ⟨true, ⟨(some 38), .bin .add (.t 37) (.c (.int .i64 (.ofNat 1))), [0], none⟩⟩,
    ⟨false, ⟨(some 9), .mov (.t 38), [1, 0, 1], none⟩⟩] [] 481036337152)
  .skip))
 (.seq (.seq (.region [⟨true, ⟨(some 39), .mov (.t 0), [], none⟩⟩,
   ⟨true, ⟨(some 40), .mov (.t 3), [], none⟩⟩,
   ⟨true, ⟨(some 41), .mov (.t 8), [], none⟩⟩,
   ⟨true, ⟨(some 42), .bin .add (.t 40) (.t 41), [1, 2], none⟩⟩,
   ⟨true, ⟨(some 43), .iaddr none 1 (.t 39) (.t 42), [0, 3], none⟩⟩,
   ⟨true, ⟨(some 44), .load none (.t 43), [4], none⟩⟩,
   ⟨true, ⟨(some 45), .mov (.t 0), [], none⟩⟩,
   ⟨true, ⟨(some 46), .mov (.t 3), [], none⟩⟩,
   ⟨true, ⟨(some 47), .mov (.t 9), [], none⟩⟩,
   ⟨true, ⟨(some 48), .bin .add (.t 46) (.t 47), [7, 8], none⟩⟩,
   ⟨true, ⟨(some 49), .iaddr none 1 (.t 45) (.t 48), [6, 9], none⟩⟩,
   ⟨true, ⟨(some 50), .load none (.t 49), [10], none⟩⟩,
   ⟨true, ⟨(some 51), .call .heap (.f 91) [(.t 44), (.t 50)], [5, 11], none⟩⟩,
   ⟨true, ⟨(some 52), .un .not (.t 51), [12], none⟩⟩] [] 4503118591033344)
 (.cond (.t 52)
  .ret
  .skip))
 (.seq (.region [⟨true, ⟨(some 53), .mov (.t 0), [], none⟩⟩,
   ⟨true, ⟨(some 54), .mov (.t 3), [], none⟩⟩,
   ⟨true, ⟨(some 55), .mov (.t 8), [], none⟩⟩,
   ⟨true, ⟨(some 56), .bin .add (.t 54) (.t 55), [1, 2], none⟩⟩,
   ⟨true, ⟨(some 57), .mov (.t 0), [], none⟩⟩,
   ⟨true, ⟨(some 58), .mov (.t 3), [], none⟩⟩,
   ⟨true, ⟨(some 59), .mov (.t 9), [], none⟩⟩,
   ⟨true, ⟨(some 60), .bin .add (.t 58) (.t 59), [5, 6], none⟩⟩,
   ⟨true, ⟨(some 61), .mov (.t 0), [], none⟩⟩,
   ⟨true, ⟨(some 62), .mov (.t 3), [], none⟩⟩,
   ⟨true, ⟨(some 63), .mov (.t 9), [], none⟩⟩,
   ⟨true, ⟨(some 64), .bin .add (.t 62) (.t 63), [9, 10], none⟩⟩,
   ⟨true, ⟨(some 65), .iaddr none 1 (.t 61) (.t 64), [8, 11], none⟩⟩,
   ⟨true, ⟨(some 66), .load none (.t 65), [12], none⟩⟩,
   ⟨true, ⟨(some 67), .mov (.t 0), [], none⟩⟩,
   ⟨true, ⟨(some 68), .mov (.t 3), [], none⟩⟩,
   ⟨true, ⟨(some 69), .mov (.t 8), [], none⟩⟩,
   ⟨true, ⟨(some 70), .bin .add (.t 68) (.t 69), [15, 16], none⟩⟩,
   ⟨true, ⟨(some 71), .iaddr none 1 (.t 67) (.t 70), [14, 17], none⟩⟩,
   ⟨true, ⟨(some 72), .load none (.t 71), [18], none⟩⟩,
   ⟨true, ⟨(some 73), .iaddr none 1 (.t 53) (.t 56), [0, 3, 0, 1, 2, 3, 8, 9, 10, 11, 12, 13, 19], none⟩⟩,
   ⟨false, ⟨none, .store 1 (.t 73) (.t 66), [20, 13, 0, 1, 2, 3, 8, 9, 10, 11, 12, 13, 19], none⟩⟩,
   ⟨true, ⟨(some 74), .iaddr none 1 (.t 57) (.t 60), [4, 7, 0, 1, 2, 3, 4, 5, 6, 7, 8, 9, 10, 11, 12, 13, 14, 15, 16, 17, 18, 19, 20, 21], none⟩⟩,
   ⟨false, ⟨none, .store 1 (.t 74) (.t 72), [22, 19, 21, 0, 1, 2, 3, 4, 5, 6, 7, 8, 9, 10, 11, 12, 13, 14, 15, 16, 17, 18, 19, 20, 21], none⟩⟩] [] 37778927359357534339328)
 (.region [⟨true, ⟨(some 75), .mov (.t 9), [], none⟩⟩,
   ⟨true, ⟨(some 8), .mov (.t 75), [0, 0], none⟩⟩] [] 37778931862957161710080))))))))))⟩

-- slices.nextPowerOfTwo
def f107 : FFn := ⟨7, [.tmp 2],
 (.seq (.region [⟨true, ⟨(some 2), .mov (.c (.int .u64 (.ofNat 0))), [], none⟩⟩] [] 4)
 (.seq (.region [⟨true, ⟨(some 3), .mov (.t 0), [], none⟩⟩,
   ⟨true, ⟨(some 4), .conv .u64 (.t 3), [0], none⟩⟩,
   ⟨true, ⟨(some 5), .call .heap (.f 72) [(.t 4)], [1], none⟩⟩,
   ⟨true, ⟨(some 6), .bin .shl (.c (.int .u64 (.ofNat 1))) (.t 5), [2], none⟩⟩,
   ⟨true, ⟨(some 2), .mov (.t 6), [3, 2, 0, 1, 2, 3], none⟩⟩] [] 121)
 .ret))⟩

-- (*slices.xorshift).Next
def f108 : FFn := ⟨33, [.tmp 2],
 (.seq (.region [⟨true, ⟨(some 2), .mov (.c (.int .u64 (.ofNat 0))), [], none⟩⟩] [] 4)
 (.seq (.region [⟨true, ⟨(some 3), .mov (.t 0), [], none⟩⟩,
   ⟨true, ⟨(some 4), .nilchk (.t 3), [0], none⟩⟩,
   ⟨true, ⟨(some 5), .load none (.t 4), [1], none⟩⟩,
   ⟨true, ⟨(some 6), .mov (.t 0), [], none⟩⟩,
   ⟨true, ⟨(some 7), .nilchk (.t 6), [3], none⟩⟩,
   ⟨true, ⟨(some 8), .load none (.t 7), [4], none⟩⟩,
   ⟨true, ⟨(some 9), .bin .shl (.t 8) (.c (.int .u64 (.ofNat 13))), [5], none⟩⟩,
   ⟨true, ⟨(some 10), .bin .xor (.t 5) (.t 9), [2, 6], none⟩⟩,
   ⟨true, ⟨(some 11), .nilchk (.t 3), [0, 0, 1, 2, 3, 4, 5, 6, 7], none⟩⟩,
   ⟨false, ⟨none, .store 1 (.t 11) (.t 10), [8, 7, 0, 1, 2, 3, 4, 5, 6, 7], none⟩⟩] [] 4088)
 (.seq (.region [⟨true, ⟨(some 12), .mov (.t 0), [], none⟩⟩,
   ⟨true, ⟨(some 13), .nilchk (.t 12), [0], none⟩⟩,
   ⟨true, ⟨(some 14), .load none (.t 13), [1], none⟩⟩,
   ⟨true, ⟨(some 15), .mov (.t 0), [], none⟩⟩,
   ⟨true, ⟨(some 16), .nilchk (.t 15), [3], none⟩⟩,
   ⟨true, ⟨(some 17), .load none (.t 16), [4], none⟩⟩,
   ⟨true, ⟨(some 18), .bin .shr (.t 17) (.c (.int .u64 (.ofNat 7))), [5], none⟩⟩,
   ⟨true, ⟨(some 19), .bin .xor (.t 14) (.t 18), [2, 6], none⟩⟩,
   ⟨true, ⟨(some 20), .nilchk (.t 12), [0, 0, 1, 2, 3, 4, 5, 6, 7], none⟩⟩,
   ⟨false, ⟨none, .store 1 (.t 20) (.t 19), [8, 7, 0, 1, 2, 3, 4, 5, 6, 7], none⟩⟩] [] 2093056)
 (.seq (.region [⟨true, ⟨(some 21), .mov (.t 0), [], none⟩⟩,
   ⟨true, ⟨(some 22), .nilchk (.t 21), [0], none⟩⟩,
   ⟨true, ⟨(some 23), .load none (.t 22), [1], none⟩⟩,
   ⟨true, ⟨(some 24), .mov (.t 0), [], none⟩⟩,
   ⟨true, ⟨(some 25), .nilchk (.t 24), [3], none⟩⟩,
   ⟨true, ⟨(some 26), .load none (.t 25), [4], none⟩⟩,
   ⟨true, ⟨(some 27), .bin .shl (.t 26) (.c (.int .u64 (.ofNat 17))), [5], none⟩⟩,
   ⟨true, ⟨(some 28), .bin .xor (.t 23) (.t 27), [2, 6], none⟩⟩,
   ⟨true, ⟨(some 29), .nilchk (.t 21), [0, 0, 1, 2, 3, 4, 5, 6, 7], none⟩⟩,
   ⟨false, ⟨none, .store 1 (.t 29) (.t 28), [8, 7, 0, 1, 2, 3, 4, 5, 6, 7], none⟩⟩] [] 1071644672)
 (.seq (.region [⟨true, ⟨(some 30), .mov (.t 0), [], none⟩⟩,
   ⟨true, ⟨(some 31), .nilchk (.t 30), [0], none⟩⟩,
   ⟨true, ⟨(some 32), .load none (.t 31), [1], none⟩⟩,
   ⟨true, ⟨(some 2), .mov (.t 32), [2, 0, 1, 2], none⟩⟩] [] 7516192769)
 .ret)))))⟩

-- slices.medianAdjacentOrdered[int]
def f109 : FFn := ⟨15, [.tmp 6],
 (.seq (.region [⟨true, ⟨(some 6), .mov (.c (.int .i64 (.ofNat 0))), [], none⟩⟩] [] 64)
 (.seq (.region [⟨true, ⟨(some 7), .mov (.t 0), [], none⟩⟩,
   ⟨true, ⟨(some 8), .mov (.t 1), [], none⟩⟩,
   ⟨true, ⟨(some 9), .bin .sub (.t 8) (.c (.int .i64 (.ofNat 1))), [1], none⟩⟩,
   ⟨true, ⟨(some 10), .mov (.t 1), [], none⟩⟩,
   ⟨true, ⟨(some 11), .mov (.t 1), [], none⟩⟩,
   ⟨true, ⟨(some 12), .bin .add (.t 11) (.c (.int .i64 (.ofNat 1))), [4], none⟩⟩,
   ⟨true, ⟨(some 13), .mov (.t 2), [], none⟩⟩,
   ⟨true, ⟨(some 14), .call .heap (.f 110) [(.t 7), (.t 9), (.t 10), (.t 12), (.t 13)], [0, 2, 3, 5, 6], none⟩⟩,
   ⟨true, ⟨(some 6), .mov (.t 14), [7, 7, 0, 1, 2, 3, 4, 5, 6, 7], none⟩⟩] [] 32647)
 .ret))⟩

-- slices.medianOrdered[int]
def f110 : FFn := ⟨36, [.tmp 10],
 (.seq (.region [⟨true, ⟨(some 10), .mov (.c (.int .i64 (.ofNat 0))), [], none⟩⟩] [] 1024)
 (.seq (.region [⟨true, ⟨(some 12), .mov (.t 0), [], none⟩⟩,
   ⟨true, ⟨(some 13), .mov (.t 1), [], none⟩⟩,
   ⟨true, ⟨(some 14), .mov (.t 2), [], none⟩⟩,
   ⟨true, ⟨(some 15), .mov (.t 4), [], none⟩⟩,
   ⟨true, ⟨(some 16), .call .heap (.f 117) [(.t 12), (.t 13), (.t 14), (.t 15)], [0, 1, 2, 3], none⟩⟩,
   ⟨true, ⟨(some 11), .mov (.t 16), [4], none⟩⟩,
   ⟨true, ⟨(some 17), .extract 0 (.t 11), [5], none⟩⟩,
   ⟨true, ⟨(some 18), .extract 1 (.t 11), [5], none⟩⟩,
   ⟨false, ⟨(some 1), .mov (.t 17), [6, 4, 0, 1, 2, 3, 4, 5, 6], none⟩⟩,
   ⟨false, ⟨(some 2), .mov (.t 18), [7, 8, 0, 1, 2, 3, 4, 5, 6, 7, 8], none⟩⟩] [] 522240)
 (.seq (.region [⟨true, ⟨(some 20), .mov (.t 0), [], none⟩⟩,
   ⟨true, ⟨(some 21), .mov (.t 2), [], none⟩⟩,
   ⟨true, ⟨(some 22), .mov (.t 3), [], none⟩⟩,
   ⟨true, ⟨(some 23), .mov (.t 4), [], none⟩⟩,
   ⟨true, ⟨(some 24), .call .heap (.f 117) [(.t 20), (.t 21), (.t 22), (.t 23)], [0, 1, 2, 3], none⟩⟩,
   ⟨true, ⟨(some 19), .mov (.t 24), [4], none⟩⟩,
   ⟨true, ⟨(some 25), .extract 0 (.t 19), [5], none⟩⟩,
   ⟨true, ⟨(some 26), .extract 1 (.t 19), [5], none⟩⟩,
   ⟨false, ⟨(some 2), .mov (.t 25), [6, 4, 0, 1, 2, 3, 4, 5, 6], none⟩⟩,
   ⟨false, ⟨(some 3), .mov (.t 26), [7, 8, 0, 1, 2, 3, 4, 5, 6, 7, 8], none⟩⟩] [] 133693448)
 (.seq (.region [⟨true, ⟨(some 28), .mov (.t 0), [], none⟩⟩,
   ⟨true, ⟨(some 29), .mov (.t 1), [], none⟩⟩,
   ⟨true, ⟨(some 30), .mov (.t 2), [], none⟩⟩,
   ⟨true, ⟨(some 31), .mov (.t 4), [], none⟩⟩,
   ⟨true, ⟨(some 32), .call .heap (.f 117) [(.t 28), (.t 29), (.t 30), (.t 31)], [0, 1, 2, 3], none⟩⟩,
   ⟨true, ⟨(some 27), .mov (.t 32), [4], none⟩⟩,
   ⟨true, ⟨(some 33), .extract 0 (.t 27), [5], none⟩⟩,
   ⟨true, ⟨(some 34), .extract 1 (.t 27), [5], none⟩⟩,
   ⟨false, ⟨(some 1), .mov (.t 33), [6, 4, 0, 1, 2, 3, 4, 5, 6], none⟩⟩,
   ⟨false, ⟨(some 2), .mov (.t 34), [7, 8, 0, 1, 2, 3, 4, 5, 6, 7, 8], none⟩⟩] [] 34225520659)
 (.seq (.region [⟨true, ⟨(some 35), .mov (.t 2), [], none⟩⟩,
   ⟨true, ⟨(some 10), .mov (.t 35), [0, 0], none⟩⟩] [] 34359738372)
 .ret)))))⟩

-- cmp.isNaN[int]
def f111 : FFn := ⟨6, [.tmp 2],
 (.seq (.region [⟨true, ⟨(some 2), .mov (.c (.bool false)), [], none⟩⟩] [] 4)
 (.seq (.region [⟨true, ⟨(some 3), .mov (.t 0), [], none⟩⟩,
   ⟨true, ⟨(some 4), .mov (.t 0), [], none⟩⟩,
   ⟨true, ⟨(some 5), .bin .neq (.t 3) (.t 4), [0, 1], none⟩⟩,
   ⟨true, ⟨(some 2), .mov (.t 5), [2, 0, 1, 2], none⟩⟩] [] 57)
 .ret))⟩

-- internal/strconv.log10Pow2
def f113 : FFn := ⟨6, [.tmp 2],
 (.seq (.region [⟨true, ⟨(some 2), .mov (.c (.int .i64 (.ofNat 0))), [], none⟩⟩] [] 4)
 (.seq (.region [⟨true, ⟨(some 3), .mov (.t 0), [], none⟩⟩,
   ⟨true, ⟨(some 4), .bin .mul (.t 3) (.c (.int .i64 (.ofNat 78913))), [0], none⟩⟩,
   ⟨true, ⟨(some 5), .bin .shr (.t 4) (.c (.int .u64 (.ofNat 18))), [1], none⟩⟩,
   ⟨true, ⟨(some 2), .mov (.t 5), [2, 0, 1, 2], none⟩⟩] [] 57)
 .ret))⟩

-- internal/strconv.bool2[int]
def f114 : FFn := ⟨4, [.tmp 2],
 (.seq (.region [⟨true, ⟨(some 2), .mov (.c (.int .i64 (.ofNat 0))), [], none⟩⟩] [] 4)
 (.seq (.seq (.region [⟨true, ⟨(some 3), .mov (.t 0), [], none⟩⟩] [] 1)
 (.cond (.t 3)
  (.seq (.region [⟨true, ⟨(some 2), .mov (.c (.int .i64 (.ofNat 1))), [], none⟩⟩] [] 8)
  .ret)
  .skip))
 (.seq (.region [⟨false, ⟨(some 2), .mov (.c (.int .i64 (.ofNat 0))), [], none⟩⟩] [] 8)
 .ret)))⟩

-- internal/strconv.isPowerOfTwo
def f115 : FFn := ⟨8, [.tmp 2],
 (.seq (.region [⟨true, ⟨(some 2), .mov (.c (.bool false)), [], none⟩⟩] [] 4)
 (.seq (.region [⟨true, ⟨(some 3), .mov (.t 0), [], none⟩⟩,
   ⟨true, ⟨(some 4), .mov (.t 0), [], none⟩⟩,
   ⟨true, ⟨(some 5), .bin .sub (.t 4) (.c (.int .i64 (.ofNat 1))), [1], none⟩⟩,
   ⟨true, ⟨(some 6), .bin .and (.t 3) (.t 5), [0, 2], none⟩⟩,
   ⟨true, ⟨(some 7), .bin .eql (.t 6) (.c (.int .i64 (.ofNat 0))), [3], none⟩⟩,
   ⟨true, ⟨(some 2), .mov (.t 7), [4, 0, 1, 2, 3, 4], none⟩⟩] [] 249)
 .ret))⟩

-- math/bits.TrailingZeros
def f116 : FFn := ⟨8, [.tmp 2],
 (.seq (.region [⟨true, ⟨(some 2), .mov (.c (.int .i64 (.ofNat 0))), [], none⟩⟩] [] 4)
 (.seq (.cond (.c (.bool false))
  (.seq (.region [⟨true, ⟨(some 3), .mov (.t 0), [], none⟩⟩,
    ⟨true, ⟨(some 4), .conv .u32 (.t 3), [0], none⟩⟩,
    ⟨true, ⟨(some 5), .call .heap (.f 119) [(.t 4)], [1], none⟩⟩,
    ⟨true, ⟨(some 2), .mov (.t 5), [2, 2, 0, 1, 2], none⟩⟩] [] 57)
  .ret)
  .skip)
 (.seq (.region [⟨true, ⟨(some 6), .mov (.t 0), [], none⟩⟩,
   ⟨true, ⟨(some 7), .call .heap (.f 120) [(.t 6)], [0], none⟩⟩,
   ⟨false, ⟨(some 2), .mov (.t 7), [1, 1, 0, 1], none⟩⟩] [] 193)
 .ret)))⟩

-- slices.order2Ordered[int]
def f117 : FFn := ⟨28, [.tmp 8, .tmp 9],
 (.seq (.region [⟨true, ⟨(some 8), .mov (.c (.int .i64 (.ofNat 0))), [], none⟩⟩,
   ⟨true, ⟨(some 9), .mov (.c (.int .i64 (.ofNat 0))), [0], none⟩⟩] [] 768)
 (.seq (.seq (.region [⟨true, ⟨(some 10), .mov (.t 0), [], none⟩⟩,
   ⟨true, ⟨(some 11), .mov (.t 2), [], none⟩⟩,
   ⟨true, ⟨(some 12), .iaddr none 1 (.t 10) (.t 11), [0, 1], none⟩⟩,
   ⟨true, ⟨(some 13), .load none (.t 12), [2], none⟩⟩,
   ⟨true, ⟨(some 14), .mov (.t 0), [], none⟩⟩,
   ⟨true, ⟨(some 15), .mov (.t 1), [], none⟩⟩,
   ⟨true, ⟨(some 16), .iaddr none 1 (.t 14) (.t 15), [4, 5], none⟩⟩,
   ⟨true, ⟨(some 17), .load none (.t 16), [6], none⟩⟩,
   ⟨true, ⟨(some 18), .call .heap (.f 91) [(.t 13), (.t 17)], [3, 7], none⟩⟩] [] 261121)
 (.cond (.t 18)
  (.seq (.region [⟨true, ⟨(some 19), .mov (.t 3), [], none⟩⟩,
    ⟨true, ⟨(some 20), .nilchk (.t 19), [0], none⟩⟩,
    ⟨true, ⟨(some 21), .load none (.t 20), [1], none⟩⟩,
    ⟨true, ⟨(some 22), .bin .add (.t 21) (.c (.int .i64 (.ofNat 1))), [2], none⟩⟩,
    ⟨true, ⟨(some 23), .nilchk (.t 19), [0, 0, 1, 2, 3], none⟩⟩,
    ⟨false, ⟨none, .store 1 (.t 23) (.t 22), [4, 3, 0, 1, 2, 3], none⟩⟩] [] 16515080)
  (.seq (.region [⟨true, ⟨(some 24), .mov (.t 2), [], none⟩⟩,
    ⟨true, ⟨(some 25), .mov (.t 1), [], none⟩⟩,
    ⟨true, ⟨(some 8), .mov (.t 24), [0, 0], none⟩⟩,
    ⟨true, ⟨(some 9), .mov (.t 25), [1, 2, 0, 1, 2], none⟩⟩] [] 50331654)
  .ret))
  .skip))
 (.seq (.region [⟨true, ⟨(some 26), .mov (.t 1), [], none⟩⟩,
   ⟨true, ⟨(some 27), .mov (.t 2), [], none⟩⟩,
   ⟨false, ⟨(some 8), .mov (.t 26), [0, 0], none⟩⟩,
   ⟨false, ⟨(some 9), .mov (.t 27), [1, 2, 0, 1, 2], none⟩⟩] [] 201588750)
 .ret)))⟩

-- math/bits.TrailingZeros32
def f119 : FFn := ⟨14, [.tmp 2],
 (.seq (.region [⟨true, ⟨(some 2), .mov (.c (.int .i64 (.ofNat 0))), [], none⟩⟩] [] 4)
 (.seq (.seq (.region [⟨true, ⟨(some 3), .mov (.t 0), [], none⟩⟩,
   ⟨true, ⟨(some 4), .bin .eql (.t 3) (.c (.int .u32 (.ofNat 0))), [0], none⟩⟩] [] 8)
 (.cond (.t 4)
  (.seq (.region [⟨true, ⟨(some 2), .mov (.c (.int .i64 (.ofNat 32))), [], none⟩⟩] [] 17)
  .ret)
  .skip))
 (.seq (.region [⟨true, ⟨(some 5), .mov (.t 0), [], none⟩⟩,
   ⟨true, ⟨(some 6), .mov (.t 0), [], none⟩⟩,
   ⟨true, ⟨(some 7), .un .neg (.t 6), [1], none⟩⟩,
   ⟨true, ⟨(some 8), .bin .and (.t 5) (.t 7), [0, 2], none⟩⟩,
   ⟨true, ⟨(some 9), .bin .mul (.t 8) (.c (.int .u32 (.ofNat 125613361))), [3], none⟩⟩,
   ⟨true, ⟨(some 10), .bin .shr (.t 9) (.c (.int .u64 (.ofNat 27))), [4], none⟩⟩,
   ⟨true, ⟨(some 11), .iaddr (some 32) 1 (.g 1) (.t 10), [5], none⟩⟩,
   ⟨true, ⟨(some 12), .load none (.t 11), [6], none⟩⟩,
   ⟨true, ⟨(some 13), .conv .i64 (.t 12), [7], none⟩⟩,
   ⟨false, ⟨(some 2), .mov (.t 13), [8, 0, 1, 2, 3, 4, 5, 6, 7, 8], none⟩⟩] [] 16369)
 .ret)))⟩

-- math/bits.TrailingZeros64
def f120 : FFn := ⟨14, [.tmp 2],
 (.seq (.region [⟨true, ⟨(some 2), .mov (.c (.int .i64 (.ofNat 0))), [], none⟩⟩] [] 4)
 (.seq (.seq (.region [⟨true, ⟨(some 3), .mov (.t 0), [], none⟩⟩,
   ⟨true, ⟨(some 4), .bin .eql (.t 3) (.c (.int .u64 (.ofNat 0))), [0], none⟩⟩] [] 8)
 (.cond (.t 4)
  (.seq (.region [⟨true, ⟨(some 2), .mov (.c (.int .i64 (.ofNat 64))), [], none⟩⟩] [] 17)
  .ret)
  .skip))
 (.seq (.region [⟨true, ⟨(some 5), .mov (.t 0), [], none⟩⟩,
   ⟨true, ⟨(some 6), .mov (.t 0), [], none⟩⟩,
   ⟨true, ⟨(some 7), .un .neg (.t 6), [1], none⟩⟩,
   ⟨true, ⟨(some 8), .bin .and (.t 5) (.t 7), [0, 2], none⟩⟩,
   ⟨true, ⟨(some 9), .bin .mul (.t 8) (.c (.int .u64 (.ofNat 285870213051353865))), [3], none⟩⟩,
   ⟨true, ⟨(some 10), .bin .shr (.t 9) (.c (.int .u64 (.ofNat 58))), [4], none⟩⟩,
   ⟨true, ⟨(some 11), .iaddr (some 64) 1 (.g 2) (.t 10), [5], none⟩⟩,
   ⟨true, ⟨(some 12), .load none (.t 11), [6], none⟩⟩,
   ⟨true, ⟨(some 13), .conv .i64 (.t 12), [7], none⟩⟩,
   ⟨false, ⟨(some 2), .mov (.t 13), [8, 0, 1, 2, 3, 4, 5, 6, 7, 8], none⟩⟩] [] 16369)
 .ret)))⟩


end Go.AM.FD
