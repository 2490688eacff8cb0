/- The functions' bodies as the engine reads them; written by program out of the translation, checked by the kernel. -/
import Derived.Test.YtfheeghkajihoaaDoorProg
import Derived.Test.YtfheeghkajihoaaDoorLxL
import Derived.KernelRfl
namespace Go.Proofs.YtfheeghkajihoaaDoor
open Go Go.Lx
set_option maxRecDepth 100000
def v8 : Nat → Bool := fun t => [0, 2, 3, 4, 5, 6, 7, 8, 9, 10, 11, 12, 13, 35, 91, 96, 124, 132, 149, 162, 198].contains t
def c8 : LCode :=
 .seq (.region [oT 2 (.mov (.c (.bool false)))])
 (.seq (.region [oM 14 0,
 oU 15 (.call 10 [(.u 14)]),
 oT 3 (.mov (.u 15))])
 (.seq (.region [oM 16 3,
 oU 17 (.call 15 [(.u 16), (.c (.int .i64 24))]),
 oT 4 (.mov (.u 17))])
 (.seq (.region [oU 19 (.call 17 [(.c (.int .i64 1))]),
 oM 20 4,
 oU 21 (.call 16 [(.u 19), (.u 20)]),
 oU 18 (.mov (.u 21)),
 oU 22 (.ext (.u 18) 0),
 oU 23 (.ext (.u 18) 1),
 oT 5 (.zero [.int .i64 0, .int .i64 0, .int .i64 0, .fsl 1 0 [], .fsl 1 0 [], .fsl 1 0 [], .int .i64 0]),
 oN (.store 7 (.t 5) (.u 22)),
 oT 6 (.mov (.u 23))])
 (.seq (.region [oU 25 (.load true 7 (.t 5)),
 oU 26 (.call 23 [(.u 25)]),
 oU 24 (.mov (.u 26)),
 oU 27 (.ext (.u 24) 0),
 oU 28 (.ext (.u 24) 1),
 oN (.store 7 (.t 5) (.u 27)),
 oT 7 (.mov (.u 28))])
 (.seq (.region [oM 29 6,
 oM 30 7,
 oU 31 (.app 5 56 (.u 29) (.u 30)),
 oT 8 (.mov (.u 31))])
 (.seq (.region [oT 9 (.mov (.c (.int .i64 0)))])
 (.seq (.seq (.region [oT 10 (.mov (.c (.int .i64 0)))])
 (.block 0 (.loop (.seq (.seq (.region [oM 32 10,
 oM 33 8,
 oU 34 (.lenL (.u 33)),
 oT 35 (.bin .lss (.u 32) (.u 34))])
 (.cond (.t 35)
 (.skip)
 (.exit 0)))
 (.seq (.block 1 (.seq (.seq (.regionD [⟨0, [10], false, [], oM 38 10⟩,
 ⟨1, [38], false, [], oU 39 (.bin .gtr (.u 38) (.c (.int .i64 0)))⟩,
 ⟨2, [39], false, [], oU 40 (.mov (.u 39))⟩,
 ⟨3, [8, 40], false, [], ⟨some 41, false, some ((.u 40), true), .mov (.t 8)⟩⟩,
 ⟨4, [10, 40], false, [], ⟨some 42, false, some ((.u 40), true), .mov (.t 10)⟩⟩,
 ⟨5, [42, 40], false, [], ⟨some 43, false, some ((.u 40), true), .bin .sub (.u 42) (.c (.int .i64 1))⟩⟩,
 ⟨6, [41, 43, 40], false, [], ⟨some 44, false, some ((.u 40), true), .iaS 5 (.u 41) (.u 43)⟩⟩,
 ⟨7, [44, 40], false, [], ⟨some 45, false, some ((.u 40), true), .faddr 1 (.u 44)⟩⟩,
 ⟨8, [45, 40], true, [], ⟨some 46, false, some ((.u 40), true), .load false 1 (.u 45)⟩⟩,
 ⟨9, [8, 40], false, [], ⟨some 47, false, some ((.u 40), true), .mov (.t 8)⟩⟩,
 ⟨10, [10, 40], false, [], ⟨some 48, false, some ((.u 40), true), .mov (.t 10)⟩⟩,
 ⟨11, [47, 48, 40], false, [], ⟨some 49, false, some ((.u 40), true), .iaS 5 (.u 47) (.u 48)⟩⟩,
 ⟨12, [49, 40], false, [], ⟨some 50, false, some ((.u 40), true), .faddr 1 (.u 49)⟩⟩,
 ⟨13, [50, 40], true, [], ⟨some 51, false, some ((.u 40), true), .load false 1 (.u 50)⟩⟩,
 ⟨14, [46, 51, 40], false, [], ⟨some 52, false, some ((.u 40), true), .bin .geq (.u 46) (.u 51)⟩⟩,
 ⟨15, [40, 52], false, [], oU 53 (.pick (.u 40) (.u 52) (.c (.bool false)))⟩,
 ⟨16, [53], false, [], oU 54 (.mov (.u 53))⟩,
 ⟨17, [8, 54], false, [], ⟨some 55, false, some ((.u 54), false), .mov (.t 8)⟩⟩,
 ⟨18, [10, 54], false, [], ⟨some 56, false, some ((.u 54), false), .mov (.t 10)⟩⟩,
 ⟨19, [55, 56, 54], false, [], ⟨some 57, false, some ((.u 54), false), .iaS 5 (.u 55) (.u 56)⟩⟩,
 ⟨20, [57, 54], false, [], ⟨some 58, false, some ((.u 54), false), .faddr 3 (.u 57)⟩⟩,
 ⟨21, [58, 54], true, [], ⟨some 59, false, some ((.u 54), false), .load false 1 (.u 58)⟩⟩,
 ⟨22, [59, 54], false, [], ⟨some 60, false, some ((.u 54), false), .lenL (.u 59)⟩⟩,
 ⟨23, [60, 54], false, [], ⟨some 61, false, some ((.u 54), false), .bin .eql (.u 60) (.c (.int .i64 0))⟩⟩,
 ⟨24, [54, 61], false, [], oU 62 (.pick (.u 54) (.c (.bool true)) (.u 61))⟩,
 ⟨25, [62], false, [], oU 63 (.mov (.u 62))⟩,
 ⟨26, [8, 63], false, [], ⟨some 64, false, some ((.u 63), false), .mov (.t 8)⟩⟩,
 ⟨27, [10, 63], false, [], ⟨some 65, false, some ((.u 63), false), .mov (.t 10)⟩⟩,
 ⟨28, [64, 65, 63], false, [], ⟨some 66, false, some ((.u 63), false), .iaS 5 (.u 64) (.u 65)⟩⟩,
 ⟨29, [66, 63], false, [], ⟨some 67, false, some ((.u 63), false), .faddr 4 (.u 66)⟩⟩,
 ⟨30, [67, 63], true, [], ⟨some 68, false, some ((.u 63), false), .load false 1 (.u 67)⟩⟩,
 ⟨31, [8, 63], false, [], ⟨some 69, false, some ((.u 63), false), .mov (.t 8)⟩⟩,
 ⟨32, [10, 63], false, [], ⟨some 70, false, some ((.u 63), false), .mov (.t 10)⟩⟩,
 ⟨33, [69, 70, 63], false, [], ⟨some 71, false, some ((.u 63), false), .iaS 5 (.u 69) (.u 70)⟩⟩,
 ⟨34, [71, 63], true, [], ⟨some 72, false, some ((.u 63), false), .load true 5 (.u 71)⟩⟩,
 ⟨35, [72, 63], false, [30], ⟨some 73, false, some ((.u 63), false), .call 14 [(.u 72)]⟩⟩,
 ⟨36, [68, 73, 63], false, [], ⟨some 74, false, some ((.u 63), false), .eqB true (.u 68) (.u 73)⟩⟩,
 ⟨37, [63, 74], false, [], oU 75 (.pick (.u 63) (.c (.bool true)) (.u 74))⟩,
 ⟨38, [75], false, [], oU 76 (.mov (.u 75))⟩,
 ⟨39, [8, 76], false, [], ⟨some 77, false, some ((.u 76), false), .mov (.t 8)⟩⟩,
 ⟨40, [10, 76], false, [], ⟨some 78, false, some ((.u 76), false), .mov (.t 10)⟩⟩,
 ⟨41, [77, 78, 76], false, [], ⟨some 79, false, some ((.u 76), false), .iaS 5 (.u 77) (.u 78)⟩⟩,
 ⟨42, [79, 76], false, [], ⟨some 80, false, some ((.u 76), false), .faddr 2 (.u 79)⟩⟩,
 ⟨43, [80, 76], true, [], ⟨some 81, false, some ((.u 76), false), .load false 1 (.u 80)⟩⟩,
 ⟨44, [8, 76], false, [], ⟨some 82, false, some ((.u 76), false), .mov (.t 8)⟩⟩,
 ⟨45, [10, 76], false, [], ⟨some 83, false, some ((.u 76), false), .mov (.t 10)⟩⟩,
 ⟨46, [82, 83, 76], false, [], ⟨some 84, false, some ((.u 76), false), .iaS 5 (.u 82) (.u 83)⟩⟩,
 ⟨47, [84, 76], false, [], ⟨some 85, false, some ((.u 76), false), .faddr 3 (.u 84)⟩⟩,
 ⟨48, [85, 76], true, [], ⟨some 86, false, some ((.u 76), false), .load false 1 (.u 85)⟩⟩,
 ⟨49, [86, 76], false, [], ⟨some 87, false, some ((.u 76), false), .iaS 4 (.u 86) (.c (.int .i64 0))⟩⟩,
 ⟨50, [87, 76], false, [], ⟨some 88, false, some ((.u 76), false), .faddr 1 (.u 87)⟩⟩,
 ⟨51, [88, 76], true, [], ⟨some 89, false, some ((.u 76), false), .load false 1 (.u 88)⟩⟩,
 ⟨52, [81, 89, 76], false, [], ⟨some 90, false, some ((.u 76), false), .bin .neq (.u 81) (.u 89)⟩⟩,
 ⟨53, [76, 90], false, [], oT 91 (.pick (.u 76) (.c (.bool true)) (.u 90))⟩])
 (.cond (.t 91)
 (.seq (.region [oT 2 (.mov (.c (.bool false)))])
 (.ret))
 (.skip)))
 (.seq (.seq (.region [oT 11 (.mov (.c (.int .i64 0)))])
 (.block 2 (.loop (.seq (.seq (.region [oM 92 11,
 oU 93 (.faddr 5 (.t 5)),
 oU 94 (.load false 1 (.u 93)),
 oU 95 (.lenL (.u 94)),
 oT 96 (.bin .lss (.u 92) (.u 95))])
 (.cond (.t 96)
 (.skip)
 (.exit 2)))
 (.seq (.block 3 (.seq (.regionD [⟨0, [5], false, [], oU 99 (.faddr 5 (.t 5))⟩,
 ⟨1, [99], true, [], oU 100 (.load false 1 (.u 99))⟩,
 ⟨2, [11], false, [], oM 101 11⟩,
 ⟨3, [100, 101], false, [], oU 102 (.iaS 2 (.u 100) (.u 101))⟩,
 ⟨4, [102], false, [], oU 103 (.faddr 0 (.u 102))⟩,
 ⟨5, [103], true, [], oU 104 (.load false 1 (.u 103))⟩,
 ⟨6, [8], false, [], oM 105 8⟩,
 ⟨7, [10], false, [], oM 106 10⟩,
 ⟨8, [105, 106], false, [], oU 107 (.iaS 5 (.u 105) (.u 106))⟩,
 ⟨9, [107], false, [], oU 108 (.faddr 1 (.u 107))⟩,
 ⟨10, [108], true, [], oU 109 (.load false 1 (.u 108))⟩,
 ⟨11, [104, 109], false, [], oU 110 (.bin .leq (.u 104) (.u 109))⟩,
 ⟨12, [110], false, [], oU 111 (.mov (.u 110))⟩,
 ⟨13, [8, 111], false, [], ⟨some 112, false, some ((.u 111), true), .mov (.t 8)⟩⟩,
 ⟨14, [10, 111], false, [], ⟨some 113, false, some ((.u 111), true), .mov (.t 10)⟩⟩,
 ⟨15, [112, 113, 111], false, [], ⟨some 114, false, some ((.u 111), true), .iaS 5 (.u 112) (.u 113)⟩⟩,
 ⟨16, [114, 111], false, [], ⟨some 115, false, some ((.u 111), true), .faddr 1 (.u 114)⟩⟩,
 ⟨17, [115, 111], true, [], ⟨some 116, false, some ((.u 111), true), .load false 1 (.u 115)⟩⟩,
 ⟨18, [5, 111], false, [], ⟨some 117, false, some ((.u 111), true), .faddr 5 (.t 5)⟩⟩,
 ⟨19, [117, 111], true, [], ⟨some 118, false, some ((.u 111), true), .load false 1 (.u 117)⟩⟩,
 ⟨20, [11, 111], false, [], ⟨some 119, false, some ((.u 111), true), .mov (.t 11)⟩⟩,
 ⟨21, [118, 119, 111], false, [], ⟨some 120, false, some ((.u 111), true), .iaS 2 (.u 118) (.u 119)⟩⟩,
 ⟨22, [120, 111], false, [], ⟨some 121, false, some ((.u 111), true), .faddr 1 (.u 120)⟩⟩,
 ⟨23, [121, 111], true, [], ⟨some 122, false, some ((.u 111), true), .load false 1 (.u 121)⟩⟩,
 ⟨24, [116, 122, 111], false, [], ⟨some 123, false, some ((.u 111), true), .bin .leq (.u 116) (.u 122)⟩⟩,
 ⟨25, [111, 123], false, [], oT 124 (.pick (.u 111) (.u 123) (.c (.bool false)))⟩])
 (.cond (.t 124)
 (.seq (.region [oT 2 (.mov (.c (.bool false)))])
 (.ret))
 (.skip))))
 (.region [oM 97 11,
 oU 98 (.bin .add (.u 97) (.c (.int .i64 1))),
 oT 11 (.mov (.u 98))]))))))
 (.seq (.seq (.region [oT 12 (.mov (.c (.int .i64 0)))])
 (.block 4 (.loop (.seq (.seq (.region [oM 125 12,
 oM 126 8,
 oM 127 10,
 oU 128 (.iaS 5 (.u 126) (.u 127)),
 oU 129 (.faddr 3 (.u 128)),
 oU 130 (.load false 1 (.u 129)),
 oU 131 (.lenL (.u 130)),
 oT 132 (.bin .lss (.u 125) (.u 131))])
 (.cond (.t 132)
 (.skip)
 (.exit 4)))
 (.seq (.block 5 (.seq (.regionD [⟨0, [8], false, [], oM 135 8⟩,
 ⟨1, [10], false, [], oM 136 10⟩,
 ⟨2, [135, 136], false, [], oU 137 (.iaS 5 (.u 135) (.u 136))⟩,
 ⟨3, [137], false, [], oU 138 (.faddr 3 (.u 137))⟩,
 ⟨4, [138], true, [], oU 139 (.load false 1 (.u 138))⟩,
 ⟨5, [12], false, [], oM 140 12⟩,
 ⟨6, [139, 140], false, [], oU 141 (.iaS 4 (.u 139) (.u 140))⟩,
 ⟨7, [141], false, [], oU 142 (.faddr 2 (.u 141))⟩,
 ⟨8, [142], true, [], oU 143 (.load false 1 (.u 142))⟩,
 ⟨9, [8], false, [], oM 144 8⟩,
 ⟨10, [10], false, [], oM 145 10⟩,
 ⟨11, [144, 145], false, [], oU 146 (.iaS 5 (.u 144) (.u 145))⟩,
 ⟨12, [146], false, [], oU 147 (.faddr 1 (.u 146))⟩,
 ⟨13, [147], true, [], oU 148 (.load false 1 (.u 147))⟩,
 ⟨14, [143, 148], false, [], oT 149 (.bin .neq (.u 143) (.u 148))⟩])
 (.cond (.t 149)
 (.seq (.region [oT 2 (.mov (.c (.bool false)))])
 (.ret))
 (.skip))))
 (.region [oM 133 12,
 oU 134 (.bin .add (.u 133) (.c (.int .i64 1))),
 oT 12 (.mov (.u 134))]))))))
 (.region [oM 150 9,
 oM 151 8,
 oM 152 10,
 oU 153 (.iaS 5 (.u 151) (.u 152)),
 oU 154 (.faddr 3 (.u 153)),
 oU 155 (.load false 1 (.u 154)),
 oU 156 (.lenL (.u 155)),
 oU 157 (.bin .add (.u 150) (.u 156)),
 oT 9 (.mov (.u 157))])))))
 (.region [oM 36 10,
 oU 37 (.bin .add (.u 36) (.c (.int .i64 1))),
 oT 10 (.mov (.u 37))]))))))
 (.seq (.seq (.region [oT 13 (.mov (.c (.int .i64 0)))])
 (.block 6 (.loop (.seq (.seq (.region [oM 158 13,
 oU 159 (.faddr 5 (.t 5)),
 oU 160 (.load false 1 (.u 159)),
 oU 161 (.lenL (.u 160)),
 oT 162 (.bin .lss (.u 158) (.u 161))])
 (.cond (.t 162)
 (.skip)
 (.exit 6)))
 (.seq (.block 7 (.seq (.regionD [⟨0, [5], false, [], oU 165 (.faddr 5 (.t 5))⟩,
 ⟨1, [165], true, [], oU 166 (.load false 1 (.u 165))⟩,
 ⟨2, [13], false, [], oM 167 13⟩,
 ⟨3, [166, 167], false, [], oU 168 (.iaS 2 (.u 166) (.u 167))⟩,
 ⟨4, [168], false, [], oU 169 (.faddr 0 (.u 168))⟩,
 ⟨5, [169], true, [], oU 170 (.load false 1 (.u 169))⟩,
 ⟨6, [5], false, [], oU 171 (.faddr 5 (.t 5))⟩,
 ⟨7, [171], true, [], oU 172 (.load false 1 (.u 171))⟩,
 ⟨8, [13], false, [], oM 173 13⟩,
 ⟨9, [172, 173], false, [], oU 174 (.iaS 2 (.u 172) (.u 173))⟩,
 ⟨10, [174], false, [], oU 175 (.faddr 1 (.u 174))⟩,
 ⟨11, [175], true, [], oU 176 (.load false 1 (.u 175))⟩,
 ⟨12, [170, 176], false, [], oU 177 (.bin .gtr (.u 170) (.u 176))⟩,
 ⟨13, [177], false, [], oU 178 (.mov (.u 177))⟩,
 ⟨14, [13, 178], false, [], ⟨some 179, false, some ((.u 178), false), .mov (.t 13)⟩⟩,
 ⟨15, [179, 178], false, [], ⟨some 180, false, some ((.u 178), false), .bin .gtr (.u 179) (.c (.int .i64 0))⟩⟩,
 ⟨16, [180, 178], false, [], ⟨some 181, false, some ((.u 178), false), .mov (.u 180)⟩⟩,
 ⟨17, [5, 181], false, [], ⟨some 182, false, some ((.u 181), true), .faddr 5 (.t 5)⟩⟩,
 ⟨18, [182, 181], true, [], ⟨some 183, false, some ((.u 181), true), .load false 1 (.u 182)⟩⟩,
 ⟨19, [13, 181], false, [], ⟨some 184, false, some ((.u 181), true), .mov (.t 13)⟩⟩,
 ⟨20, [184, 181], false, [], ⟨some 185, false, some ((.u 181), true), .bin .sub (.u 184) (.c (.int .i64 1))⟩⟩,
 ⟨21, [183, 185, 181], false, [], ⟨some 186, false, some ((.u 181), true), .iaS 2 (.u 183) (.u 185)⟩⟩,
 ⟨22, [186, 181], false, [], ⟨some 187, false, some ((.u 181), true), .faddr 1 (.u 186)⟩⟩,
 ⟨23, [187, 181], true, [], ⟨some 188, false, some ((.u 181), true), .load false 1 (.u 187)⟩⟩,
 ⟨24, [188, 181], false, [], ⟨some 189, false, some ((.u 181), true), .bin .add (.u 188) (.c (.int .i64 1))⟩⟩,
 ⟨25, [5, 181], false, [], ⟨some 190, false, some ((.u 181), true), .faddr 5 (.t 5)⟩⟩,
 ⟨26, [190, 181], true, [], ⟨some 191, false, some ((.u 181), true), .load false 1 (.u 190)⟩⟩,
 ⟨27, [13, 181], false, [], ⟨some 192, false, some ((.u 181), true), .mov (.t 13)⟩⟩,
 ⟨28, [191, 192, 181], false, [], ⟨some 193, false, some ((.u 181), true), .iaS 2 (.u 191) (.u 192)⟩⟩,
 ⟨29, [193, 181], false, [], ⟨some 194, false, some ((.u 181), true), .faddr 0 (.u 193)⟩⟩,
 ⟨30, [194, 181], true, [], ⟨some 195, false, some ((.u 181), true), .load false 1 (.u 194)⟩⟩,
 ⟨31, [189, 195, 181], false, [], ⟨some 196, false, some ((.u 181), true), .bin .geq (.u 189) (.u 195)⟩⟩,
 ⟨32, [181, 196, 178], false, [], ⟨some 197, false, some ((.u 178), false), .pick (.u 181) (.u 196) (.c (.bool false))⟩⟩,
 ⟨33, [178, 197], false, [], oT 198 (.pick (.u 178) (.c (.bool true)) (.u 197))⟩])
 (.cond (.t 198)
 (.seq (.region [oT 2 (.mov (.c (.bool false)))])
 (.ret))
 (.skip))))
 (.region [oM 163 13,
 oU 164 (.bin .add (.u 163) (.c (.int .i64 1))),
 oT 13 (.mov (.u 164))]))))))
 (.seq (.region [oM 199 9,
 oU 200 (.faddr 2 (.t 5)),
 oU 201 (.load false 1 (.u 200)),
 oU 202 (.bin .add (.u 199) (.u 201)),
 oM 203 4,
 oU 204 (.lenL (.u 203)),
 oU 205 (.bin .eql (.u 202) (.u 204)),
 oU 206 (.mov (.u 205)),
 ⟨some 207, false, some ((.u 206), true), .faddr 3 (.t 5)⟩,
 ⟨some 208, false, some ((.u 206), true), .load false 1 (.u 207)⟩,
 ⟨some 209, false, some ((.u 206), true), .lenL (.u 208)⟩,
 ⟨some 210, false, some ((.u 206), true), .bin .eql (.u 209) (.c (.int .i64 0))⟩,
 oU 211 (.pick (.u 206) (.u 210) (.c (.bool false))),
 oU 212 (.mov (.u 211)),
 ⟨some 213, false, some ((.u 212), true), .call 9 []⟩,
 oU 214 (.pick (.u 212) (.u 213) (.c (.bool false))),
 oT 2 (.mov (.u 214))])
 (.ret))))))))))
def r8 : List LRes := [.slot 2]
theorem t8 : (Tryd.f8.body.bind (trCode v8 Tryd.prog Tryd.f8.ntmps)) = some c8 ∧ trRes v8 Tryd.prog Tryd.f8.results.toList = some r8 := ⟨by kernel_rfl, by kernel_rfl⟩


end Go.Proofs.YtfheeghkajihoaaDoor
