/- The functions' bodies as the engine reads them; written by program out of the translation, checked by the kernel. -/
import Derived.Test.YtkdblnejpmbnfaaGreatProg
import Derived.Test.YtkdblnejpmbnfaaGreatW06
import Derived.KernelRfl
import Derived.Test.YtkdblnejpmbnfaaGreatW07
import Derived.Test.YtkdblnejpmbnfaaGreatW08
import Derived.Test.YtkdblnejpmbnfaaGreatRows
import Derived.WalkKit
import Derived.ProofKit
import Derived.OpenShut
import Derived.Deep.DeepHandedRow
namespace Go.Proofs.YtkdblnejpmbnfaaGreat
open Go Go.Lx
set_option maxRecDepth 100000
def c6 : LCode :=
 sR [oT 2 (.mov (.c (.nil)))]
 (sR [oM 3 0,
 oU 4 (.build [.fsl 1 0 [], zI] [(0, 1, .u 3)]),
 oU 5 (.box (.u 4)),
 oV 2 5]
 .ret)
def r6 : List LRes := [.slot 2]
theorem t6 : trOk Tryz.prog Tryz.f6 (vL [0, 2]) c6 r6 := ⟨by kernel_rfl, by kernel_rfl⟩
def c8 : LCode :=
 sR [oB 3 1,
 oI 4 0]
 (.seq (sR [oG 5 2 3,
 oL 6 1 5,
 oU 7 (.lenL (.u 6)),
 oU 8 (.bin .eql (.u 7) (xI 0)),
 oW 9 8,
 oO 10 9 (.mov (.t 0)),
 oO 11 9 (.call 22 [.u 10, xI 24]),
 oO 12 9 (.bin .eql (.u 11) (xI 23)),
 oQ 13 9 12]
 (cT 13
 (sR [oM 14 0,
 oC 15 19 [.u 14, xI 0, xI 9],
 oV 4 15]
 .ret)
 .skip))
 (sD [dF 0 [3] (oG 16 2 3),
 dT 1 [16] (oL 17 1 16),
 dF 2 [0] (oM 18 0),
 dF 3 [3] (oG 19 2 3),
 dT 4 [19] (oL 20 1 19),
 dF 5 [20] (oU 21 (.lenL (.u 20))),
 ⟨6, [18, 21], false, [1], oC 22 22 [.u 18, .u 21]⟩,
 dF 7 [17, 22] (oA 23 14 17 22),
 dF 8 [23] (oF 24 0 23),
 dT 9 [24] (oL 25 1 24),
 dF 10 [25] (oV 4 25)]
 .ret))
def r8 : List LRes := [.slot 4]
theorem t8 : trOk Tryz.prog Tryz.f8 (vL [0, 1, 3, 4, 13]) c8 r8 := ⟨by kernel_rfl, by kernel_rfl⟩
def c9 : LCode :=
 sR [oB 2 0,
 oB 3 1,
 oT 4 (.zero [zI, zI, .fsl 1 0 []]),
 oI 5 0]
 (sR [oK 6 3 2,
 oU 7 (.load false 1 (.t 3)),
 oU 8 (.mkf 24 [.t 3]),
 oC 9 23 [.u 6, .u 7, .u 8],
 oX 10 9 0,
 oX 11 9 1,
 oS 3 4 10,
 oV 5 11]
 .ret)
def r9 : List LRes := [.cell true 3 4, .slot 5]
theorem t9 : trOk Tryz.prog Tryz.f9 (vL [0, 1, 2, 3, 4, 5]) c9 r9 := ⟨by kernel_rfl, by kernel_rfl⟩
def c10 : LCode :=
 sR [oP 0 false]
 (sR [oU 9 (.build [zI, zI] [(1, 1, xI 1)]),
 oC 10 26 [.u 9],
 oT 1 (.zero [zI, zI, .fsl 1 0 []]),
 oS 3 1 10]
 (sR [oK 12 3 1,
 oC 13 27 [.u 12, xI 1],
 oW 11 13,
 oX 14 11 0,
 oX 15 11 1,
 oX 16 11 2,
 oS 3 1 14,
 oV 2 15,
 oV 3 16]
 (sR [oK 18 3 1,
 oM 19 2,
 oC 20 28 [.u 18, .u 19, xI 5],
 oW 17 20,
 oX 21 17 0,
 oX 22 17 1,
 oS 3 1 21,
 oV 4 22]
 (sR [oK 24 3 1,
 oM 25 2,
 oC 26 28 [.u 24, .u 25, xI 0],
 oW 23 26,
 oX 27 23 0,
 oX 28 23 1,
 oU 5 (.zero [zI, zI, .fsl 1 0 []]),
 oR 3 5 27,
 oV 6 28]
 (sR [oK 30 3 1,
 oC 31 17 [.u 30, xI 2],
 oW 29 31,
 oX 32 29 0,
 oX 33 29 1,
 oT 7 (.zero [zI, zI, zI, zI, zI, zI, zI, zI, zI, zI, .str [], .str [], .fsl 1 0 [], .bool false]),
 oS 14 7 32,
 oV 8 33]
 (sR [oM 34 3,
 oU 35 (.bin .eql (.u 34) (xI 0)),
 oW 36 35,
 oY 37 36 (.mov (.t 4)),
 oY 38 36 (.bin .eql (.u 37) (xI 0)),
 oU 39 (.pick (.u 36) (.u 38) (.c (.bool false))),
 oW 40 39,
 oY 41 40 (.mov (.t 6)),
 oY 42 40 (.bin .eql (.u 41) (xI 1)),
 oU 43 (.pick (.u 40) (.u 42) (.c (.bool false))),
 oW 44 43,
 oY 45 44 (.mov (.t 2)),
 oY 46 44 (.bin .eql (.u 45) (xI 2)),
 oU 47 (.pick (.u 44) (.u 46) (.c (.bool false))),
 oW 48 47,
 oY 49 48 (.mov (.t 8)),
 oU 50 (.pick (.u 48) (.u 49) (.c (.bool false))),
 oW 51 50,
 oY 52 51 (.faddr 2 (.t 7)),
 oY 53 51 (.load false 1 (.u 52)),
 oY 54 51 (.bin .eql (.u 53) (xI 5)),
 oU 55 (.pick (.u 51) (.u 54) (.c (.bool false))),
 oW 56 55,
 oY 57 56 (.faddr 1 (.t 7)),
 oY 58 56 (.load false 1 (.u 57)),
 oY 59 56 (.bin .eql (.u 58) (xI 1)),
 oU 60 (.pick (.u 56) (.u 59) (.c (.bool false))),
 oV 0 60]
 .ret))))))
def r10 : List LRes := [.slot 0]
theorem t10 : trOk Tryz.prog Tryz.f10 (vL [0, 1, 2, 3, 4, 6, 7, 8]) c10 r10 := ⟨by kernel_rfl, by kernel_rfl⟩
def c11 : LCode :=
 sR [oB 2 0,
 oT 4 (.zero [zI, zI, zI, zI, zI, zI, zI, zI, zI, zI, .str [], .str [], .fsl 1 0 [], .bool false]),
 oP 5 false]
 (.seq (sR [oI 6 0]
 (.block 0 (.loop (.seq (sR [oM 7 6,
 oG 8 2 2,
 oL 9 1 8,
 oU 10 (.lenL (.u 9)),
 oT 11 (.bin .lss (.u 7) (.u 10))]
 (cT 11
 .skip
 (.exit 0)))
 (.seq (.block 1 (sR [oG 14 2 2,
 oL 15 1 14,
 oM 16 6,
 oA 17 14 15 16,
 oF 18 0 17,
 oL 19 1 18,
 oM 20 1,
 oT 21 (.bin .eql (.u 19) (.u 20))]
 (cT 21
 (sR [oG 22 2 2,
 oL 23 1 22,
 oM 24 6,
 oA 25 14 23 24,
 oJ 26 14 25,
 oC 27 29 [.u 26],
 oS 14 4 27,
 oP 5 true]
 .ret)
 .skip)))
 (.region [oM 12 6,
 oU 13 (.bin .add (.u 12) (xI 1)),
 oV 6 13]))))))
 (sR [oU 28 (.build [zI, zI, zI, zI, zI, zI, zI, zI, zI, zI, .str [], .str [], .fsl 1 0 [], .bool false] []),
 oS 14 4 28,
 oP 5 false]
 .ret))
def r11 : List LRes := [.cell true 14 4, .slot 5]
theorem t11 : trOk Tryz.prog Tryz.f11 (vL [0, 1, 2, 4, 5, 6, 11, 21]) c11 r11 := ⟨by kernel_rfl, by kernel_rfl⟩
def c12 : LCode :=
 sR [oB 2 0,
 oB 3 1,
 oP 4 false]
 (.seq (sR [oG 6 0 2,
 oL 7 1 6,
 oG 8 0 3,
 oL 9 1 8,
 oU 10 (.bin .neq (.u 7) (.u 9)),
 oW 11 10,
 oO 12 11 (.faddr 1 (.t 2)),
 oO 13 11 (.load false 1 (.u 12)),
 oO 14 11 (.faddr 1 (.t 3)),
 oO 15 11 (.load false 1 (.u 14)),
 oO 16 11 (.bin .neq (.u 13) (.u 15)),
 oH 17 11 16,
 oW 18 17,
 oO 19 18 (.faddr 2 (.t 2)),
 oO 20 18 (.load false 1 (.u 19)),
 oO 21 18 (.faddr 2 (.t 3)),
 oO 22 18 (.load false 1 (.u 21)),
 oO 23 18 (.bin .neq (.u 20) (.u 22)),
 oH 24 18 23,
 oW 25 24,
 oO 26 25 (.faddr 3 (.t 2)),
 oO 27 25 (.load false 1 (.u 26)),
 oO 28 25 (.faddr 3 (.t 3)),
 oO 29 25 (.load false 1 (.u 28)),
 oO 30 25 (.bin .neq (.u 27) (.u 29)),
 oH 31 25 30,
 oW 32 31,
 oO 33 32 (.faddr 4 (.t 2)),
 oO 34 32 (.load false 1 (.u 33)),
 oO 35 32 (.faddr 4 (.t 3)),
 oO 36 32 (.load false 1 (.u 35)),
 oO 37 32 (.bin .neq (.u 34) (.u 36)),
 oH 38 32 37,
 oW 39 38,
 oO 40 39 (.faddr 5 (.t 2)),
 oO 41 39 (.load false 1 (.u 40)),
 oO 42 39 (.faddr 5 (.t 3)),
 oO 43 39 (.load false 1 (.u 42)),
 oO 44 39 (.bin .neq (.u 41) (.u 43)),
 oH 45 39 44,
 oW 46 45,
 oO 47 46 (.faddr 6 (.t 2)),
 oO 48 46 (.load false 1 (.u 47)),
 oO 49 46 (.faddr 6 (.t 3)),
 oO 50 46 (.load false 1 (.u 49)),
 oO 51 46 (.bin .neq (.u 48) (.u 50)),
 oH 52 46 51,
 oW 53 52,
 oO 54 53 (.faddr 7 (.t 2)),
 oO 55 53 (.load false 1 (.u 54)),
 oO 56 53 (.faddr 7 (.t 3)),
 oO 57 53 (.load false 1 (.u 56)),
 oO 58 53 (.bin .neq (.u 55) (.u 57)),
 oH 59 53 58,
 oW 60 59,
 oO 61 60 (.faddr 8 (.t 2)),
 oO 62 60 (.load true 2 (.u 61)),
 oO 63 60 (.faddr 8 (.t 3)),
 oO 64 60 (.load true 2 (.u 63)),
 oO 65 60 (.eqS true 2 [(0, 1), (1, 1)] (.u 62) (.u 64)),
 oH 66 60 65,
 oW 67 66,
 oO 68 67 (.faddr 10 (.t 2)),
 oO 69 67 (.load false 1 (.u 68)),
 oO 70 67 (.faddr 10 (.t 3)),
 oO 71 67 (.load false 1 (.u 70)),
 oO 72 67 (.bin .neq (.u 69) (.u 71)),
 oH 73 67 72,
 oW 74 73,
 oO 75 74 (.faddr 11 (.t 2)),
 oO 76 74 (.load false 1 (.u 75)),
 oO 77 74 (.faddr 11 (.t 3)),
 oO 78 74 (.load false 1 (.u 77)),
 oO 79 74 (.bin .neq (.u 76) (.u 78)),
 oH 80 74 79,
 oW 81 80,
 oO 82 81 (.faddr 13 (.t 2)),
 oO 83 81 (.load false 1 (.u 82)),
 oO 84 81 (.faddr 13 (.t 3)),
 oO 85 81 (.load false 1 (.u 84)),
 oO 86 81 (.eqB true (.u 83) (.u 85)),
 oH 87 81 86,
 oW 88 87,
 oO 89 88 (.faddr 12 (.t 2)),
 oO 90 88 (.load false 1 (.u 89)),
 oO 91 88 (.lenL (.u 90)),
 oO 92 88 (.faddr 12 (.t 3)),
 oO 93 88 (.load false 1 (.u 92)),
 oO 94 88 (.lenL (.u 93)),
 oO 95 88 (.bin .neq (.u 91) (.u 94)),
 oQ 96 88 95]
 (cT 96
 (sR [oP 4 false]
 .ret)
 .skip))
 (.seq (sR [oI 5 0]
 (.block 0 (.loop (.seq (sR [oM 97 5,
 oG 98 12 2,
 oL 99 1 98,
 oU 100 (.lenL (.u 99)),
 oT 101 (.bin .lss (.u 97) (.u 100))]
 (cT 101
 .skip
 (.exit 0)))
 (.seq (.block 1 (sD [dF 0 [2] (oG 104 12 2),
 dT 1 [104] (oL 105 1 104),
 dF 2 [5] (oM 106 5),
 dF 3 [105, 106] (oA 107 4 105 106),
 dT 4 [107] (oJ 108 4 107),
 dF 5 [3] (oG 109 12 3),
 dT 6 [109] (oL 110 1 109),
 dF 7 [5] (oM 111 5),
 dF 8 [110, 111] (oA 112 4 110 111),
 dT 9 [112] (oJ 113 4 112),
 dF 10 [108, 113] (oT 114 (.eqS true 4 [(0, 1), (1, 1), (2, 1), (3, 1)] (.u 108) (.u 113)))]
 (cT 114
 (sR [oP 4 false]
 .ret)
 .skip)))
 (.region [oM 102 5,
 oU 103 (.bin .add (.u 102) (xI 1)),
 oV 5 103]))))))
 (sR [oP 4 true]
 .ret)))
def r12 : List LRes := [.slot 4]
theorem t12 : trOk Tryz.prog Tryz.f12 (vL [0, 1, 2, 3, 4, 5, 96, 101, 114]) c12 r12 := ⟨by kernel_rfl, by kernel_rfl⟩
def c16 : LCode :=
 sR [oB 3 1,
 oT 4 (.zero [zI, zI, .fsl 1 0 []]),
 oP 5 false]
 (sR [oM 25 0,
 oK 26 3 3,
 oC 27 8 [.u 25, .u 26],
 oM 28 0,
 oU 29 (.mkS 1 10 [zI] [(0, 1, xI 0), (1, 1, xI 0), (2, 1, xI 1), (3, 1, xI 2), (4, 1, xI 5), (5, 1, xI 7), (6, 1, xI 1000), (7, 1, xI 4294967294), (8, 1, xI 4294967295), (9, 1, xI (-1))]),
 oC 30 31 [.u 28, .u 29],
 oV 6 27,
 oV 7 30]
 (sR [oT 8 (.zero [zI, zI, .fsl 1 0 []]),
 oT 9 (.zero [zI, zI, .fsl 1 0 []])]
 (sR [oI 10 0,
 oI 11 0]
 (sR [oI 12 0,
 oI 13 0]
 (.seq (sR [oM 31 0,
 oT 32 (.call 22 [.u 31, xI 11])]
 (.block 0 (.seq (sR [oU 56 (.bin .eql (.t 32) (xI 0)),
 oV 55 56]
 (cT 55
 .skip
 (.region [oU 57 (.bin .eql (.t 32) (xI 1)),
 oV 55 57])))
 (cT 55
 (sR [oK 59 3 3,
 oM 60 6,
 oC 61 27 [.u 59, .u 60],
 oW 58 61,
 oX 62 58 0,
 oX 63 58 1,
 oX 64 58 2,
 oS 3 8 62,
 oV 12 63,
 oV 10 64]
 (.region [oK 66 3 3,
 oM 67 6,
 oC 68 37 [.u 66, .u 67],
 oW 65 68,
 oX 69 65 0,
 oX 70 65 1,
 oX 71 65 2,
 oS 3 9 69,
 oV 13 70,
 oV 11 71]))
 (sR [oU 73 (.bin .eql (.t 32) (xI 2)),
 oV 72 73]
 (cT 72
 (sR [oK 75 3 3,
 oM 76 6,
 oC 77 9 [.u 75, .u 76],
 oW 74 77,
 oX 78 74 0,
 oX 79 74 1,
 oS 3 8 78,
 oV 10 79]
 (.region [oK 81 3 3,
 oM 82 6,
 oC 83 38 [.u 81, .u 82],
 oW 80 83,
 oX 84 80 0,
 oX 85 80 1,
 oS 3 9 84,
 oV 11 85]))
 (sR [oU 87 (.bin .eql (.t 32) (xI 3)),
 oV 86 87]
 (cT 86
 (sR [oK 89 3 3,
 oM 90 6,
 oM 91 7,
 oC 92 28 [.u 89, .u 90, .u 91],
 oW 88 92,
 oX 93 88 0,
 oX 94 88 1,
 oS 3 8 93,
 oV 10 94]
 (.region [oK 96 3 3,
 oM 97 6,
 oM 98 7,
 oC 99 39 [.u 96, .u 97, .u 98],
 oW 95 99,
 oX 100 95 0,
 oX 101 95 1,
 oS 3 9 100,
 oV 11 101]))
 (sR [oU 103 (.bin .eql (.t 32) (xI 4)),
 oV 102 103]
 (cT 102
 (sR [oK 105 3 3,
 oM 106 6,
 oM 107 7,
 oC 108 40 [.u 105, .u 106, .u 107],
 oW 104 108,
 oX 109 104 0,
 oX 110 104 1,
 oS 3 8 109,
 oV 10 110]
 (.region [oK 112 3 3,
 oM 113 6,
 oM 114 7,
 oC 115 41 [.u 112, .u 113, .u 114],
 oW 111 115,
 oX 116 111 0,
 oX 117 111 1,
 oS 3 9 116,
 oV 11 117]))
 (sR [oU 119 (.bin .eql (.t 32) (xI 5)),
 oV 118 119]
 (cT 118
 (sR [oK 121 3 3,
 oM 122 6,
 oM 123 7,
 oC 124 42 [.u 121, .u 122, .u 123],
 oW 120 124,
 oX 125 120 0,
 oX 126 120 1,
 oS 3 8 125,
 oV 10 126]
 (.region [oK 128 3 3,
 oM 129 6,
 oM 130 7,
 oC 131 43 [.u 128, .u 129, .u 130],
 oW 127 131,
 oX 132 127 0,
 oX 133 127 1,
 oS 3 9 132,
 oV 11 133]))
 (sR [oU 135 (.bin .eql (.t 32) (xI 6)),
 oV 134 135]
 (cT 134
 (sR [oM 136 0,
 oC 137 22 [.u 136, xI 4],
 oU 138 (.build [zI, zI] [(1, 1, .u 137)]),
 oM 139 0,
 oC 140 22 [.u 139, xI 8],
 oT 14 (.zero [zI, zI]),
 oS 2 14 138,
 oV 15 140]
 (sR [oK 142 3 3,
 oM 143 6,
 oK 144 2 14,
 oM 145 15,
 oC 146 44 [.u 142, .u 143, .u 144, .u 145],
 oW 141 146,
 oX 147 141 0,
 oX 148 141 1,
 oX 149 141 2,
 oS 3 8 147,
 oV 12 148,
 oV 10 149]
 (.region [oK 151 3 3,
 oM 152 6,
 oK 153 2 14,
 oM 154 15,
 oC 155 45 [.u 151, .u 152, .u 153, .u 154],
 oW 150 155,
 oX 156 150 0,
 oX 157 150 1,
 oX 158 150 2,
 oS 3 9 156,
 oV 13 157,
 oV 11 158])))
 (sR [oU 160 (.bin .eql (.t 32) (xI 7)),
 oV 159 160]
 (cT 159
 (sR [oM 161 0,
 oC 162 19 [.u 161, xI (-1), xI 3],
 oV 16 162]
 (sR [oK 164 3 3,
 oM 165 6,
 oM 166 16,
 oC 167 46 [.u 164, .u 165, .u 166],
 oW 163 167,
 oX 168 163 0,
 oX 169 163 1,
 oS 3 8 168,
 oV 10 169]
 (.region [oK 171 3 3,
 oM 172 6,
 oM 173 16,
 oC 174 47 [.u 171, .u 172, .u 173],
 oW 170 174,
 oX 175 170 0,
 oX 176 170 1,
 oS 3 9 175,
 oV 11 176])))
 (sR [oU 178 (.bin .eql (.t 32) (xI 8)),
 oV 177 178]
 (cT 177
 (sR [oM 179 0,
 oC 180 22 [.u 179, xI 4],
 oU 181 (.build [zI, zI] [(1, 1, .u 180)]),
 oM 182 0,
 oC 183 48 [.u 182],
 oT 17 (.zero [zI, zI]),
 oS 2 17 181,
 oV 18 183]
 (sR [oK 185 3 3,
 oM 186 6,
 oK 187 2 17,
 oC 188 49 [.u 185, .u 186, .u 187],
 oW 184 188,
 oX 189 184 0,
 oX 190 184 1,
 oS 3 8 189,
 oV 10 190]
 (sR [oK 192 3 3,
 oM 193 6,
 oK 194 2 17,
 oC 195 50 [.u 192, .u 193, .u 194],
 oW 191 195,
 oX 196 191 0,
 oX 197 191 1,
 oS 3 9 196,
 oV 11 197]
 (sR [oK 199 3 3,
 oM 200 6,
 oM 201 18,
 oU 202 (.call 51 [.u 199, .u 200, .u 201, (.c (.str [120]))]),
 oW 198 202,
 oX 203 198 0,
 oX 204 198 1,
 oT 19 (.zero [zI, zI, .fsl 1 0 []]),
 oS 3 19 203,
 oV 20 204]
 (.cond (.c (.bool true))
 (sR [oK 206 3 3,
 oM 207 6,
 oM 208 18,
 oU 209 (.call 52 [.u 206, .u 207, .u 208, (.c (.str [120]))]),
 oW 205 209,
 oX 210 205 0,
 oX 211 205 1,
 oT 21 (.zero [zI, zI, .fsl 1 0 []]),
 oS 3 21 210,
 oV 22 211]
 (sR [oM 212 20,
 oM 213 22,
 oU 214 (.bin .neq (.u 212) (.u 213)),
 oW 215 214,
 oO 216 215 (.load true 3 (.t 19)),
 oO 217 215 (.load true 3 (.t 21)),
 oO 218 215 (.call 53 [.u 216, .u 217]),
 oO 219 215 (.un .not (.u 218)),
 oQ 220 215 219]
 (cT 220
 (sR [oK 221 3 3,
 oS 3 4 221,
 oP 5 false]
 .ret)
 .skip)))
 .skip)))))
 (sR [oU 223 (.bin .eql (.t 32) (xI 9)),
 oV 222 223]
 (cT 222
 (sR [oK 225 3 3,
 oM 226 6,
 oM 227 7,
 oU 228 (.bin .gtr (.u 227) (xI 0)),
 oC 229 54 [.u 225, .u 226, .u 228],
 oW 224 229,
 oX 230 224 0,
 oX 231 224 1,
 oS 3 8 230,
 oV 10 231]
 (.region [oK 233 3 3,
 oM 234 6,
 oM 235 7,
 oU 236 (.bin .gtr (.u 235) (xI 0)),
 oC 237 55 [.u 233, .u 234, .u 236],
 oW 232 237,
 oX 238 232 0,
 oX 239 232 1,
 oS 3 9 238,
 oV 11 239]))
 (sR [oM 33 0,
 oK 34 3 3,
 oC 35 8 [.u 33, .u 34],
 oM 36 0,
 oC 37 22 [.u 36, xI 2],
 oU 38 (.bin .eql (.u 37) (xI 0)),
 oV 23 35,
 oV 24 38]
 (sR [oK 40 3 3,
 oM 41 6,
 oM 42 23,
 oM 43 24,
 oC 44 56 [.u 40, .u 41, .u 42, .u 43],
 oW 39 44,
 oX 45 39 0,
 oX 46 39 1,
 oS 3 8 45,
 oV 10 46]
 (.region [oK 48 3 3,
 oM 49 6,
 oM 50 23,
 oM 51 24,
 oC 52 57 [.u 48, .u 49, .u 50, .u 51],
 oW 47 52,
 oX 53 47 0,
 oX 54 47 1,
 oS 3 9 53,
 oV 11 54])))))))))))))))))))))))
 (.seq (sR [oM 240 10,
 oM 241 11,
 oU 242 (.bin .neq (.u 240) (.u 241)),
 oW 243 242,
 oO 244 243 (.mov (.t 12)),
 oO 245 243 (.mov (.t 13)),
 oO 246 243 (.bin .neq (.u 244) (.u 245)),
 oH 247 243 246,
 oW 248 247,
 oO 249 248 (.load true 3 (.t 8)),
 oO 250 248 (.load true 3 (.t 9)),
 oO 251 248 (.call 53 [.u 249, .u 250]),
 oO 252 248 (.un .not (.u 251)),
 oQ 253 248 252]
 (cT 253
 (sR [oK 254 3 3,
 oS 3 4 254,
 oP 5 false]
 .ret)
 .skip))
 (.seq (sR [oM 255 10,
 oT 256 (.bin .neq (.u 255) (xI 0))]
 (cT 256
 (sR [oK 257 3 3,
 oS 3 4 257,
 oP 5 true]
 .ret)
 .skip))
 (sR [oK 258 3 9,
 oS 3 4 258,
 oP 5 true]
 .ret))))))))
def r16 : List LRes := [.cell true 3 4, .slot 5]
theorem t16 : trOk Tryz.prog Tryz.f16 (vL [0, 1, 3, 4, 5, 6, 7, 8, 9, 10, 11, 12, 13, 14, 15, 16, 17, 18, 19, 20, 21, 22, 23, 24, 32, 55, 72, 86, 102, 118, 134, 159, 177, 220, 222, 253, 256]) c16 r16 := ⟨by kernel_rfl, by kernel_rfl⟩
def c17 : LCode :=
 sR [oB 2 0,
 oT 4 (.zero [zI, zI, zI, zI, zI, zI, zI, zI, zI, zI, .str [], .str [], .fsl 1 0 [], .bool false]),
 oP 5 false]
 (sR [oK 7 3 2,
 oM 8 1,
 oC 9 58 [.u 7, .u 8],
 oV 6 9]
 (.seq (sR [oM 10 6,
 oT 11 (.bin .lss (.u 10) (xI 0))]
 (cT 11
 (sR [oU 12 (.build [zI, zI, zI, zI, zI, zI, zI, zI, zI, zI, .str [], .str [], .fsl 1 0 [], .bool false] []),
 oS 14 4 12,
 oP 5 false]
 .ret)
 .skip))
 (sR [oG 13 2 2,
 oL 14 1 13,
 oM 15 6,
 oA 16 14 14 15,
 oJ 17 14 16,
 oC 18 59 [.u 17],
 oS 14 4 18,
 oP 5 true]
 .ret)))
def r17 : List LRes := [.cell true 14 4, .slot 5]
theorem t17 : trOk Tryz.prog Tryz.f17 (vL [0, 1, 2, 4, 5, 6, 11]) c17 r17 := ⟨by kernel_rfl, by kernel_rfl⟩
def c19 : LCode :=
 sR [oI 6 0]
 (sR [oM 7 1,
 oM 8 0,
 oM 9 2,
 oM 10 1,
 oU 11 (.bin .sub (.u 9) (.u 10)),
 oU 12 (.bin .add (.u 11) (xI 1)),
 oC 13 22 [.u 8, .u 12],
 oU 14 (.bin .add (.u 7) (.u 13)),
 oV 6 14]
 .ret)
def r19 : List LRes := [.slot 6]
theorem t19 : trOk Tryz.prog Tryz.f19 (vL [0, 1, 2, 6]) c19 r19 := ⟨by kernel_rfl, by kernel_rfl⟩
def c21 : LCode :=
 sR [oT 2 (.zero [zI, zI, zI, zI, zI, .fsl 1 0 [], .fsl 1 0 []])]
 (sR [oM 11 0,
 oU 12 (.mkS 1 26 [zI] [(0, 1, xI 0), (1, 1, xI 1), (2, 1, xI 2), (3, 1, xI 3), (4, 1, xI 4), (5, 1, xI 5), (6, 1, xI 6), (7, 1, xI 6), (8, 1, xI 6), (9, 1, xI 7), (10, 1, xI 8), (11, 1, xI 9), (12, 1, xI 10), (13, 1, xI 11), (14, 1, xI 11), (15, 1, xI 12), (16, 1, xI 13), (17, 1, xI 13), (18, 1, xI 14), (19, 1, xI 15), (20, 1, xI 16), (21, 1, xI 17), (22, 1, xI 18), (23, 1, xI 19), (24, 1, xI 20), (25, 1, xI 21)]),
 oC 13 31 [.u 11, .u 12],
 oU 14 (.build [zI, zI, zI, zI, zI, .fsl 1 0 [], .fsl 1 0 []] [(0, 1, .u 13)]),
 oT 3 (.zero [zI, zI, zI, zI, zI, .fsl 1 0 [], .fsl 1 0 []]),
 oS 7 3 14]
 (sR [oG 16 0 3,
 oL 17 1 16,
 oC 18 67 [.u 17],
 oW 15 18,
 oX 19 15 0,
 oX 20 15 1,
 oX 21 15 2,
 oX 22 15 3,
 oV 4 19,
 oV 5 20,
 oV 6 21,
 oV 7 22]
 (.seq (sR [oI 8 0]
 (.block 0 (.loop (.seq (sR [oM 23 8,
 oM 24 4,
 oT 25 (.bin .lss (.u 23) (.u 24))]
 (cT 25
 .skip
 (.exit 0)))
 (.seq (.block 1 (.region [oM 28 8,
 oM 29 0,
 oU 30 (.mkS 1 8 [zI] [(0, 1, xI 0), (1, 1, xI 1), (2, 1, xI 2), (3, 1, xI 3), (4, 1, xI 5), (5, 1, xI 7), (6, 1, xI 420), (7, 1, xI 493)]),
 oC 31 31 [.u 29, .u 30],
 oG 32 1 3,
 oU 33 (.iaA 4 1 (.u 32) (.u 28)),
 oR 1 33 31]))
 (.region [oM 26 8,
 oU 27 (.bin .add (.u 26) (xI 1)),
 oV 8 27]))))))
 (.seq (sR [oG 34 0 3,
 oT 35 (.load false 1 (.u 34))]
 (.block 2 (sR [oU 37 (.bin .eql (.t 35) (xI 6)),
 oV 36 37]
 (cT 36
 (.region [oM 38 0,
 oU 39 (.mkS 1 12 [zI] [(0, 1, xI 1), (1, 1, xI 2), (2, 1, xI 3), (3, 1, xI 6), (4, 1, xI 6), (5, 1, xI 7), (6, 1, xI 14), (7, 1, xI 22), (8, 1, xI 33), (9, 1, xI 38), (10, 1, xI 0), (11, 1, xI 64)]),
 oC 40 31 [.u 38, .u 39],
 oM 41 0,
 oU 42 (.mkS 1 5 [zI] [(0, 1, xI 420), (1, 1, xI 384), (2, 1, xI 0), (3, 1, xI 511), (4, 1, xI 512)]),
 oC 43 31 [.u 41, .u 42],
 oU 44 (.build [zI, zI, zI, zI] [(0, 1, .u 40), (1, 1, .u 43)]),
 oG 45 1 3,
 oR 4 45 44])
 (sR [oU 47 (.bin .eql (.t 35) (xI 11)),
 oV 46 47]
 (cT 46
 (.region [oM 48 0,
 oU 49 (.mkS 1 4 [zI] [(0, 1, xI 493), (1, 1, xI 511), (2, 1, xI 448), (3, 1, xI 512)]),
 oC 50 31 [.u 48, .u 49],
 oG 51 1 3,
 oU 52 (.iaA 4 1 (.u 51) (xI 0)),
 oR 1 52 50])
 (.seq (sR [oU 54 (.bin .eql (.t 35) (xI 2)),
 oV 53 54]
 (cT 53
 .skip
 (.region [oU 55 (.bin .eql (.t 35) (xI 7)),
 oV 53 55])))
 (cT 53
 (.region [oM 56 0,
 oC 57 22 [.u 56, xI 3],
 oG 58 1 3,
 oU 59 (.iaA 4 1 (.u 58) (xI 0)),
 oR 1 59 57])
 (sR [oU 61 (.bin .eql (.t 35) (xI 20)),
 oV 60 61]
 (cT 60
 (.region [oM 62 0,
 oC 63 19 [.u 62, xI 1, xI 4],
 oM 64 0,
 oU 65 (.mkS 1 5 [zI] [(0, 1, xI 9), (1, 1, xI 0), (2, 1, xI 64), (3, 1, xI 65), (4, 1, xI 9)]),
 oC 66 31 [.u 64, .u 65],
 oU 67 (.build [zI, zI, zI, zI] [(0, 1, .u 63), (1, 1, .u 66)]),
 oG 68 1 3,
 oR 4 68 67])
 .skip))))))))))
 (.seq (sR [oI 9 0]
 (.block 3 (.loop (.seq (sR [oM 69 9,
 oM 70 5,
 oT 71 (.bin .lss (.u 69) (.u 70))]
 (cT 71
 .skip
 (.exit 3)))
 (.seq (.block 4 (.regionD [dF 0 [3] (oG 74 5 3),
 dT 1 [74] (oL 75 1 74),
 dF 2 [0] (oM 76 0),
 ⟨3, [76], false, [1], oC 77 68 [.u 76]⟩,
 dF 4 [77] (oU 78 (.mkS 1 1 [.str []] [(0, 1, .u 77)])),
 dF 5 [75, 78] (oU 79 (.app 1 16 (.u 75) (.u 78))),
 dF 6 [3] (oG 80 5 3),
 dF 7 [80, 79] (oR 1 80 79)]))
 (.region [oM 72 9,
 oU 73 (.bin .add (.u 72) (xI 1)),
 oV 9 73]))))))
 (.seq (sR [oM 81 0,
 oM 82 6,
 oM 83 7,
 oC 84 19 [.u 81, .u 82, .u 83],
 oV 10 84]
 (.block 5 (.loop (.seq (sR [oM 85 10,
 oT 86 (.bin .gtr (.u 85) (xI 0))]
 (cT 86
 .skip
 (.exit 5)))
 (.seq (.block 6 (.regionD [dF 0 [3] (oG 89 6 3),
 dT 1 [89] (oL 90 1 89),
 dF 2 [0] (oM 91 0),
 dF 3 [] (oU 92 (.mkS 1 8 [.str []] [(0, 1, (.c (.str [97]))), (1, 1, (.c (.str [47, 97]))), (2, 1, (.c (.str [98, 47, 99]))), (3, 1, (.c (.str [104, 111, 115, 116]))), (4, 1, (.c (.str []))), (5, 1, (.c (.str [46, 46, 47, 98]))), (6, 1, (.c (.str [47]))), (7, 1, (.c (.str [120, 32, 121])))])),
 ⟨4, [91, 92], false, [1], oC 93 69 [.u 91, .u 92]⟩,
 dF 5 [93] (oU 94 (.mkS 1 1 [.str []] [(0, 1, .u 93)])),
 dF 6 [90, 94] (oU 95 (.app 1 16 (.u 90) (.u 94))),
 dF 7 [3] (oG 96 6 3),
 dF 8 [96, 95] (oR 1 96 95)]))
 (.region [oM 87 10,
 oU 88 (.bin .sub (.u 87) (xI 1)),
 oV 10 88]))))))
 (.seq (sR [oM 97 0,
 oC 98 22 [.u 97, xI 40],
 oT 99 (.bin .eql (.u 98) (xI 39))]
 (cT 99
 (.region [oM 100 0,
 oC 101 22 [.u 100, xI 2],
 oM 102 0,
 oC 103 19 [.u 102, xI (-1), xI 33],
 oG 104 1 3,
 oU 105 (.iaA 4 1 (.u 104) (xI 3)),
 oR 1 105 101,
 oG 106 0 3,
 oR 1 106 103])
 .skip))
 (sR [oK 107 7 3,
 oS 7 2 107]
 .ret))))))))
def r21 : List LRes := [.cell true 7 2]
theorem t21 : trOk Tryz.prog Tryz.f21 (vL [0, 2, 3, 4, 5, 6, 7, 8, 9, 10, 25, 35, 36, 46, 53, 60, 71, 86, 99]) c21 r21 := ⟨by kernel_rfl, by kernel_rfl⟩
def c22 : LCode :=
 sR [oI 4 0]
 (.seq (sR [oM 6 1,
 oT 7 (.bin .lss (.u 6) (xI 1))]
 (cT 7
 (sR [oI 4 0]
 .ret)
 .skip))
 (sR [oM 8 0,
 oZ 9 8,
 oF 10 1 9,
 oL 11 1 10,
 oU 12 (.bin .add (.u 11) (xI 1)),
 oZ 13 8,
 oF 14 1 13,
 oR 1 14 12]
 (sR [oM 15 0,
 oZ 16 15,
 oF 17 1 16,
 oL 18 1 17,
 oU 19 (.bin .mul (.u 18) (xI 7)),
 oV 5 19]
 (.seq (sD [dF 0 [0] (oM 20 0),
 dF 1 [20] (oZ 21 20),
 dF 2 [21] (oF 22 1 21),
 dT 3 [22] (oL 23 1 22),
 dF 4 [0] (oM 24 0),
 dF 5 [24] (oZ 25 24),
 dF 6 [25] (oF 26 0 25),
 dT 7 [26] (oL 27 1 26),
 dF 8 [27] (oU 28 (.lenL (.u 27))),
 dF 9 [23, 28] (oT 29 (.bin .leq (.u 23) (.u 28)))]
 (cT 29
 (.regionD [dF 0 [0] (oM 30 0),
 dF 1 [30] (oZ 31 30),
 dF 2 [31] (oF 32 0 31),
 dT 3 [32] (oL 33 1 32),
 dF 4 [0] (oM 34 0),
 dF 5 [34] (oZ 35 34),
 dF 6 [35] (oF 36 1 35),
 dT 7 [36] (oL 37 1 36),
 dF 8 [37] (oU 38 (.bin .sub (.u 37) (xI 1))),
 dF 9 [33, 38] (oA 39 1 33 38),
 dT 10 [39] (oL 40 1 39),
 dF 11 [40] (oV 5 40)])
 .skip))
 (sR [oM 41 5,
 oM 42 1,
 oU 43 (.bin .rem (.u 41) (.u 42)),
 oV 5 43]
 (.seq (sR [oM 44 5,
 oT 45 (.bin .lss (.u 44) (xI 0))]
 (cT 45
 (.region [oM 46 5,
 oM 47 1,
 oU 48 (.bin .add (.u 46) (.u 47)),
 oV 5 48])
 .skip))
 (sR [oM 49 5,
 oV 4 49]
 .ret)))))))
def r22 : List LRes := [.slot 4]
theorem t22 : trOk Tryz.prog Tryz.f22 (vL [0, 1, 4, 5, 7, 29, 45]) c22 r22 := ⟨by kernel_rfl, by kernel_rfl⟩
def c23 : LCode :=
 sR [oB 3 0,
 oT 6 (.zero [zI, zI, .fsl 1 0 []]),
 oI 7 0]
 (sR [oK 10 3 3,
 oM 11 1,
 oC 12 58 [.u 10, .u 11],
 oV 8 12]
 (.seq (sR [oM 13 8,
 oT 14 (.bin .lss (.u 13) (xI 0))]
 (cT 14
 (sR [oU 15 (.build [zI, zI, .fsl 1 0 []] []),
 oS 3 6 15,
 oI 7 3]
 .ret)
 .skip))
 (sR [oK 16 3 3,
 oC 17 70 [.u 16],
 oS 3 3 17]
 (.seq (sR [oM 18 2,
 oG 19 2 3,
 oL 20 1 19,
 oM 21 8,
 oA 22 14 20 21,
 oU 23 (.callV (.u 18) [.t 3, .u 22]),
 oV 9 23]
 (sR [oM 24 9,
 oT 25 (.bin .neq (.u 24) (xI 0))]
 (cT 25
 (sR [oU 26 (.build [zI, zI, .fsl 1 0 []] []),
 oM 27 9,
 oS 3 6 26,
 oV 7 27]
 .ret)
 .skip)))
 (sR [oK 28 3 3,
 oS 3 6 28,
 oI 7 0]
 .ret)))))
def r23 : List LRes := [.cell true 3 6, .slot 7]
theorem t23 : trOk Tryz.prog Tryz.f23 (vL [0, 1, 2, 3, 6, 7, 8, 9, 14, 25]) c23 r23 := ⟨by kernel_rfl, by kernel_rfl⟩
def c24 : LCode :=
 sR [oI 5 0]
 (.seq (sR [oU 6 (.load false 1 (.t 2)),
 oT 7 (.bin .eql (.u 6) (xI 1))]
 (cT 7
 (sR [oI 5 1]
 .ret)
 .skip))
 (sR [oM 8 0,
 oU 9 (.load false 1 (.t 2)),
 oC 10 25 [.u 8, .u 9]]
 (sR [oI 5 0]
 .ret)))
def r24 : List LRes := [.slot 5]
theorem t24 : trOk Tryz.prog Tryz.f24 (vL [0, 1, 2, 5, 7]) c24 r24 := ⟨by kernel_rfl, by kernel_rfl⟩
def c25 : LCode :=
 sR [oM 6 0,
 oZ 7 6,
 oJ 8 3 7,
 oM 9 1,
 oC 10 58 [.u 8, .u 9],
 oV 4 10]
 (.seq (sR [oM 11 4,
 oT 12 (.bin .lss (.u 11) (xI 0))]
 (cT 12
 .ret
 .skip))
 (sR [oM 13 0,
 oM 14 0,
 oZ 15 14,
 oF 16 2 15,
 oL 17 1 16,
 oM 18 4,
 oM 19 4,
 oU 20 (.bin .add (.u 19) (xI 1)),
 oC 21 71 [.u 17, .u 18, .u 20],
 oZ 22 13,
 oF 23 2 22,
 oR 1 23 21]
 (sR [oM 24 0,
 oZ 25 24,
 oF 26 2 25,
 oL 27 1 26,
 oT 28 (.lenL (.u 27)),
 oI 29 0]
 (.block 0 (.loop (sR [oT 30 (.bin .lss (.t 29) (.t 28))]
 (.seq (cT 30
 .skip
 (.exit 0))
 (.seq (.block 1 (sR [oM 31 29,
 oV 5 31]
 (sR [oM 32 0,
 oZ 33 32,
 oF 34 2 33,
 oL 35 1 34,
 oM 36 5,
 oA 37 14 35 36,
 oF 38 1 37,
 oL 39 1 38,
 oM 40 1,
 oT 41 (.bin .eql (.u 39) (.u 40))]
 (cT 41
 (.region [oM 42 0,
 oZ 43 42,
 oF 44 2 43,
 oL 45 1 44,
 oM 46 5,
 oA 47 14 45 46,
 oF 48 1 47,
 oN (.store 1 (.u 48) (xI 1))])
 .skip))))
 (.region [oU 49 (.bin .add (.t 29) (xI 1)),
 oV 29 49])))))))))
def r25 : List LRes := []
theorem t25 : trOk Tryz.prog Tryz.f25 (vL [0, 1, 4, 5, 12, 28, 29, 30, 41]) c25 r25 := ⟨by kernel_rfl, by kernel_rfl⟩
def c26 : LCode :=
 sR [oB 1 0,
 oT 2 (.zero [zI, zI, .fsl 1 0 []])]
 (sR [oK 4 2 1,
 oU 5 (.build [zI, zI, zI, zI, zI, zI, zI, zI, zI, zI, .str [], .str [], .fsl 1 0 [], .bool false] [(0, 1, xI 1), (6, 1, xI 4294967295), (7, 1, xI 4294967295), (8, 2, .u 4), (10, 1, (.c (.str [105, 110, 105, 116]))), (11, 1, (.c (.str [47, 105, 110, 105, 116]))), (13, 1, (.c (.bool true)))]),
 oT 3 (.zero [zI, zI, zI, zI, zI, zI, zI, zI, zI, zI, .str [], .str [], .fsl 1 0 [], .bool false]),
 oS 14 3 5]
 (sR [oK 6 14 3,
 oU 7 (.mkS 14 1 [zI, zI, zI, zI, zI, zI, zI, zI, zI, zI, .str [], .str [], .fsl 1 0 [], .bool false] [(0, 14, .u 6)]),
 oU 8 (.build [zI, zI, .fsl 1 0 []] [(0, 1, xI 2), (1, 1, xI 1), (2, 1, .u 7)]),
 oS 3 2 8]
 .ret))
def r26 : List LRes := [.cell true 3 2]
theorem t26 : trOk Tryz.prog Tryz.f26 (vL [0, 1, 2, 3]) c26 r26 := ⟨by kernel_rfl, by kernel_rfl⟩
def c27 : LCode :=
 sR [oB 2 0,
 oB 3 1,
 oT 4 (.zero [zI, zI, .fsl 1 0 []]),
 oI 5 0,
 oI 6 0]
 (sR [oG 9 0 2,
 oL 10 1 9,
 oT 7 (.zero [zI]),
 oS 1 7 10]
 (sR [oK 12 3 2,
 oU 13 (.load false 1 (.t 3)),
 oU 14 (.mkf 72 [.t 7, .t 3]),
 oC 15 23 [.u 12, .u 13, .u 14],
 oW 11 15,
 oX 16 11 0,
 oX 17 11 1,
 oS 3 2 16,
 oV 8 17]
 (.seq (sR [oM 18 8,
 oT 19 (.bin .neq (.u 18) (xI 0))]
 (cT 19
 (sR [oU 20 (.build [zI, zI, .fsl 1 0 []] []),
 oM 21 8,
 oS 3 4 20,
 oI 5 0,
 oV 6 21]
 .ret)
 .skip))
 (sD [dT 0 [2] (oK 22 3 2),
 dT 1 [7] (oU 23 (.load false 1 (.t 7))),
 ⟨2, [4, 22], false, [1], oS 3 4 22⟩,
 dF 3 [23] (oV 5 23),
 dF 4 [] (oI 6 0)]
 .ret))))
def r27 : List LRes := [.cell true 3 4, .slot 5, .slot 6]
theorem t27 : trOk Tryz.prog Tryz.f27 (vL [0, 1, 2, 3, 4, 5, 6, 7, 8, 19]) c27 r27 := ⟨by kernel_rfl, by kernel_rfl⟩
def c28 : LCode :=
 sR [oB 3 0,
 oB 5 2,
 oT 6 (.zero [zI, zI, .fsl 1 0 []]),
 oI 7 0]
 (sR [oK 8 3 3,
 oM 9 1,
 oU 10 (.mkf 73 [.t 5]),
 oC 11 23 [.u 8, .u 9, .u 10],
 oX 12 11 0,
 oX 13 11 1,
 oS 3 6 12,
 oV 7 13]
 .ret)
def r28 : List LRes := [.cell true 3 6, .slot 7]
theorem t28 : trOk Tryz.prog Tryz.f28 (vL [0, 1, 2, 3, 5, 6, 7]) c28 r28 := ⟨by kernel_rfl, by kernel_rfl⟩
def c29 : LCode :=
 sR [oB 1 0,
 oT 2 (.zero [zI, zI, zI, zI, zI, zI, zI, zI, zI, zI, .str [], .str [], .fsl 1 0 [], .bool false])]
 (sR [oG 3 12 1,
 oL 4 1 3,
 oU 5 (.app 4 32 (.c (.fsl 1 0 [])) (.u 4)),
 oG 6 12 1,
 oR 1 6 5]
 (sR [oK 7 14 1,
 oS 14 2 7]
 .ret))
def r29 : List LRes := [.cell true 14 2]
theorem t29 : trOk Tryz.prog Tryz.f29 (vL [0, 1, 2]) c29 r29 := ⟨by kernel_rfl, by kernel_rfl⟩
def c30 : LCode :=
 sR [oB 1 0,
 oT 2 (.zero [zI, zI, .fsl 1 0 []])]
 (sR [oG 5 0 1,
 oL 6 1 5,
 oG 7 1 1,
 oL 8 1 7,
 oU 9 (.build [zI, zI, .fsl 1 0 []] [(0, 1, .u 6), (1, 1, .u 8)]),
 oT 3 (.zero [zI, zI, .fsl 1 0 []]),
 oS 3 3 9]
 (.seq (sR [oI 4 0]
 (.block 0 (.loop (.seq (sR [oM 10 4,
 oG 11 2 1,
 oL 12 1 11,
 oU 13 (.lenL (.u 12)),
 oT 14 (.bin .lss (.u 10) (.u 13))]
 (cT 14
 .skip
 (.exit 0)))
 (.seq (.block 1 (.regionD [dF 0 [3] (oG 17 2 3),
 dT 1 [17] (oL 18 1 17),
 dF 2 [1] (oG 19 2 1),
 dT 3 [19] (oL 20 1 19),
 dF 4 [4] (oM 21 4),
 dF 5 [20, 21] (oA 22 14 20 21),
 dT 6 [22] (oJ 23 14 22),
 ⟨7, [23], false, [1], oC 24 29 [.u 23]⟩,
 dF 8 [24] (oU 25 (.mkS 14 1 [zI, zI, zI, zI, zI, zI, zI, zI, zI, zI, .str [], .str [], .fsl 1 0 [], .bool false] [(0, 14, .u 24)])),
 dF 9 [18, 25] (oU 26 (.app 14 144 (.u 18) (.u 25))),
 dF 10 [3] (oG 27 2 3),
 dF 11 [27, 26] (oR 1 27 26)]))
 (.region [oM 15 4,
 oU 16 (.bin .add (.u 15) (xI 1)),
 oV 4 16]))))))
 (sR [oK 28 3 3,
 oS 3 2 28]
 .ret)))
def r30 : List LRes := [.cell true 3 2]
theorem t30 : trOk Tryz.prog Tryz.f30 (vL [0, 1, 2, 3, 4, 14]) c30 r30 := ⟨by kernel_rfl, by kernel_rfl⟩
def c31 : LCode :=
 sR [oI 4 0]
 (sR [oM 5 1,
 oM 6 0,
 oM 7 1,
 oU 8 (.lenL (.u 7)),
 oC 9 22 [.u 6, .u 8],
 oA 10 1 5 9,
 oL 11 1 10,
 oV 4 11]
 .ret)
def r31 : List LRes := [.slot 4]
theorem t31 : trOk Tryz.prog Tryz.f31 (vL [0, 1, 4]) c31 r31 := ⟨by kernel_rfl, by kernel_rfl⟩
def c37 : LCode :=
 sR [oB 2 0,
 oT 4 (.zero [zI, zI, .fsl 1 0 []]),
 oI 5 0,
 oI 6 0]
 (sR [oK 11 3 2,
 oM 12 1,
 oC 13 11 [.u 11, .u 12],
 oW 10 13,
 oX 14 10 0,
 oX 15 10 1,
 oT 7 (.zero [zI, zI, zI, zI, zI, zI, zI, zI, zI, zI, .str [], .str [], .fsl 1 0 [], .bool false]),
 oS 14 7 14,
 oV 8 15]
 (.seq (sR [oM 16 8,
 oT 17 (.un .not (.u 16))]
 (cT 17
 (sR [oU 18 (.build [zI, zI, .fsl 1 0 []] []),
 oS 3 4 18,
 oI 5 0,
 oI 6 3]
 .ret)
 .skip))
 (.seq (sR [oG 19 2 2,
 oL 20 1 19,
 oU 21 (.lenL (.u 20)),
 oU 22 (.bin .geq (.u 21) (xI 16)),
 oW 23 22,
 oO 24 23 (.faddr 0 (.t 2)),
 oO 25 23 (.load false 1 (.u 24)),
 oO 26 23 (.bin .eql (.u 25) (xI 1073741824)),
 oQ 27 23 26]
 (cT 27
 (sR [oU 28 (.build [zI, zI, .fsl 1 0 []] []),
 oS 3 4 28,
 oI 5 0,
 oI 6 11]
 .ret)
 .skip))
 (sR [oG 29 0 2,
 oL 30 1 29,
 oM 31 1,
 oG 32 0 7,
 oR 1 32 30,
 oG 33 1 7,
 oR 1 33 31]
 (sR [oK 34 3 2,
 oC 35 30 [.u 34],
 oT 9 (.zero [zI, zI, .fsl 1 0 []]),
 oS 3 9 35]
 (sR [oG 36 0 9,
 oL 37 1 36,
 oU 38 (.bin .add (.u 37) (xI 1)),
 oG 39 0 9,
 oR 1 39 38]
 (sR [oG 40 2 9,
 oL 41 1 40,
 oK 42 14 7,
 oU 43 (.mkS 14 1 [zI, zI, zI, zI, zI, zI, zI, zI, zI, zI, .str [], .str [], .fsl 1 0 [], .bool false] [(0, 14, .u 42)]),
 oU 44 (.app 14 144 (.u 41) (.u 43)),
 oG 45 2 9,
 oR 1 45 44]
 (sD [dT 0 [9] (oK 46 3 9),
 dF 1 [7] (oG 47 0 7),
 dT 2 [47] (oL 48 1 47),
 ⟨3, [4, 46], false, [2], oS 3 4 46⟩,
 dF 4 [48] (oV 5 48),
 dF 5 [] (oI 6 0)]
 .ret))))))))
def r37 : List LRes := [.cell true 3 4, .slot 5, .slot 6]
theorem t37 : trOk Tryz.prog Tryz.f37 (vL [0, 1, 2, 4, 5, 6, 7, 8, 9, 17, 27]) c37 r37 := ⟨by kernel_rfl, by kernel_rfl⟩
def c38 : LCode :=
 sR [oB 2 0,
 oT 4 (.zero [zI, zI, .fsl 1 0 []]),
 oI 5 0]
 (.seq (sR [oK 12 3 2,
 oM 13 1,
 oC 14 11 [.u 12, .u 13],
 oW 11 14,
 oX 15 11 0,
 oX 16 11 1,
 oU 6 (.zero [zI, zI, zI, zI, zI, zI, zI, zI, zI, zI, .str [], .str [], .fsl 1 0 [], .bool false]),
 oR 14 6 15,
 oV 7 16]
 (sR [oM 17 7,
 oT 18 (.un .not (.u 17))]
 (cT 18
 (sR [oU 19 (.build [zI, zI, .fsl 1 0 []] []),
 oS 3 4 19,
 oI 5 3]
 .ret)
 .skip)))
 (.seq (sR [oM 20 1,
 oT 21 (.bin .eql (.u 20) (xI 1))]
 (cT 21
 (sR [oU 22 (.build [zI, zI, .fsl 1 0 []] []),
 oS 3 4 22,
 oI 5 1]
 .ret)
 .skip))
 (sR [oG 23 0 2,
 oL 24 1 23,
 oG 25 1 2,
 oL 26 1 25,
 oU 27 (.build [zI, zI, .fsl 1 0 []] [(0, 1, .u 24), (1, 1, .u 26)]),
 oT 8 (.zero [zI, zI, .fsl 1 0 []]),
 oS 3 8 27]
 (.seq (sR [oI 9 0]
 (.block 0 (.loop (.seq (sR [oM 28 9,
 oG 29 2 2,
 oL 30 1 29,
 oU 31 (.lenL (.u 30)),
 oT 32 (.bin .lss (.u 28) (.u 31))]
 (cT 32
 .skip
 (.exit 0)))
 (.seq (.block 1 (sR [oG 35 2 2,
 oL 36 1 35,
 oM 37 9,
 oA 38 14 36 37,
 oJ 39 14 38,
 oC 40 29 [.u 39],
 oT 10 (.zero [zI, zI, zI, zI, zI, zI, zI, zI, zI, zI, .str [], .str [], .fsl 1 0 [], .bool false]),
 oS 14 10 40]
 (.seq (sR [oG 41 1 10,
 oL 42 1 41,
 oM 43 1,
 oT 44 (.bin .eql (.u 42) (.u 43))]
 (cT 44
 (.region [oG 45 1 10,
 oN (.store 1 (.u 45) (xI 1))])
 .skip))
 (sR [oG 46 0 10,
 oL 47 1 46,
 oM 48 1,
 oT 49 (.bin .neq (.u 47) (.u 48))]
 (cT 49
 (.region [oG 50 2 8,
 oL 51 1 50,
 oK 52 14 10,
 oU 53 (.mkS 14 1 [zI, zI, zI, zI, zI, zI, zI, zI, zI, zI, .str [], .str [], .fsl 1 0 [], .bool false] [(0, 14, .u 52)]),
 oU 54 (.app 14 144 (.u 51) (.u 53)),
 oG 55 2 8,
 oR 1 55 54])
 .skip)))))
 (.region [oM 33 9,
 oU 34 (.bin .add (.u 33) (xI 1)),
 oV 9 34]))))))
 (sR [oK 56 3 8,
 oS 3 4 56,
 oI 5 0]
 .ret)))))
def r38 : List LRes := [.cell true 3 4, .slot 5]
theorem t38 : trOk Tryz.prog Tryz.f38 (vL [0, 1, 2, 4, 5, 7, 8, 9, 10, 18, 21, 32, 44, 49]) c38 r38 := ⟨by kernel_rfl, by kernel_rfl⟩
def c39 : LCode :=
 sR [oB 3 0,
 oT 6 (.zero [zI, zI, .fsl 1 0 []]),
 oI 7 0]
 (sR [oK 12 3 3,
 oM 13 1,
 oC 14 11 [.u 12, .u 13],
 oW 11 14,
 oX 15 11 0,
 oX 16 11 1,
 oT 8 (.zero [zI, zI, zI, zI, zI, zI, zI, zI, zI, zI, .str [], .str [], .fsl 1 0 [], .bool false]),
 oS 14 8 15,
 oV 9 16]
 (.seq (sR [oM 17 9,
 oT 18 (.un .not (.u 17))]
 (cT 18
 (sR [oU 19 (.build [zI, zI, .fsl 1 0 []] []),
 oS 3 6 19,
 oI 7 3]
 .ret)
 .skip))
 (.seq (sR [oM 20 2,
 oC 21 76 [.u 20],
 oT 22 (.un .not (.u 21))]
 (cT 22
 (sR [oU 23 (.build [zI, zI, .fsl 1 0 []] []),
 oS 3 6 23,
 oI 7 22]
 .ret)
 .skip))
 (sR [oI 10 0]
 (sR [oG 25 3 8,
 oL 26 1 25,
 oU 27 (.bin .eql (.u 26) (xI 0)),
 oG 28 2 8,
 oL 29 1 28,
 oG 30 3 8,
 oL 31 1 30,
 oM 32 2,
 oC 33 77 [.u 27, .u 29, .u 31, .u 32],
 oW 24 33,
 oX 34 24 0,
 oX 35 24 1,
 oX 36 24 2,
 oG 37 2 8,
 oR 1 37 34,
 oG 38 3 8,
 oR 1 38 35,
 oV 10 36]
 (.seq (sR [oM 39 10,
 oT 40 (.bin .neq (.u 39) (xI 0))]
 (cT 40
 (sR [oU 41 (.build [zI, zI, .fsl 1 0 []] []),
 oM 42 10,
 oS 3 6 41,
 oV 7 42]
 .ret)
 .skip))
 (sR [oK 43 3 3,
 oK 44 14 8,
 oC 45 78 [.u 43, .u 44],
 oS 3 6 45,
 oI 7 0]
 .ret)))))))
def r39 : List LRes := [.cell true 3 6, .slot 7]
theorem t39 : trOk Tryz.prog Tryz.f39 (vL [0, 1, 2, 3, 6, 7, 8, 9, 10, 18, 22, 40]) c39 r39 := ⟨by kernel_rfl, by kernel_rfl⟩
def c40 : LCode :=
 sR [oB 3 0,
 oB 5 2,
 oT 6 (.zero [zI, zI, .fsl 1 0 []]),
 oI 7 0]
 (sR [oK 8 3 3,
 oM 9 1,
 oU 10 (.mkf 79 [.t 5]),
 oC 11 23 [.u 8, .u 9, .u 10],
 oX 12 11 0,
 oX 13 11 1,
 oS 3 6 12,
 oV 7 13]
 .ret)
def r40 : List LRes := [.cell true 3 6, .slot 7]
theorem t40 : trOk Tryz.prog Tryz.f40 (vL [0, 1, 2, 3, 5, 6, 7]) c40 r40 := ⟨by kernel_rfl, by kernel_rfl⟩
def c41 : LCode :=
 sR [oB 3 0,
 oT 6 (.zero [zI, zI, .fsl 1 0 []]),
 oI 7 0]
 (sR [oK 12 3 3,
 oM 13 1,
 oC 14 11 [.u 12, .u 13],
 oW 11 14,
 oX 15 11 0,
 oX 16 11 1,
 oT 8 (.zero [zI, zI, zI, zI, zI, zI, zI, zI, zI, zI, .str [], .str [], .fsl 1 0 [], .bool false]),
 oS 14 8 15,
 oV 9 16]
 (.seq (sR [oM 17 9,
 oT 18 (.un .not (.u 17))]
 (cT 18
 (sR [oU 19 (.build [zI, zI, .fsl 1 0 []] []),
 oS 3 6 19,
 oI 7 3]
 .ret)
 .skip))
 (.seq (sR [oM 20 2,
 oC 21 76 [.u 20],
 oT 22 (.un .not (.u 21))]
 (cT 22
 (sR [oU 23 (.build [zI, zI, .fsl 1 0 []] []),
 oS 3 6 23,
 oI 7 22]
 .ret)
 .skip))
 (sR [oI 10 0]
 (sR [oG 25 3 8,
 oL 26 1 25,
 oU 27 (.bin .eql (.u 26) (xI 0)),
 oG 28 4 8,
 oL 29 1 28,
 oG 30 5 8,
 oL 31 1 30,
 oM 32 2,
 oC 33 77 [.u 27, .u 29, .u 31, .u 32],
 oW 24 33,
 oX 34 24 0,
 oX 35 24 1,
 oX 36 24 2,
 oG 37 4 8,
 oR 1 37 34,
 oG 38 5 8,
 oR 1 38 35,
 oV 10 36]
 (.seq (sR [oM 39 10,
 oT 40 (.bin .neq (.u 39) (xI 0))]
 (cT 40
 (sR [oU 41 (.build [zI, zI, .fsl 1 0 []] []),
 oM 42 10,
 oS 3 6 41,
 oV 7 42]
 .ret)
 .skip))
 (sR [oK 43 3 3,
 oK 44 14 8,
 oC 45 78 [.u 43, .u 44],
 oS 3 6 45,
 oI 7 0]
 .ret)))))))
def r41 : List LRes := [.cell true 3 6, .slot 7]
theorem t41 : trOk Tryz.prog Tryz.f41 (vL [0, 1, 2, 3, 6, 7, 8, 9, 10, 18, 22, 40]) c41 r41 := ⟨by kernel_rfl, by kernel_rfl⟩
def c42 : LCode :=
 sR [oB 3 0,
 oB 5 2,
 oT 6 (.zero [zI, zI, .fsl 1 0 []]),
 oI 7 0]
 (sR [oK 8 3 3,
 oM 9 1,
 oU 10 (.mkf 80 [.t 5]),
 oC 11 23 [.u 8, .u 9, .u 10],
 oX 12 11 0,
 oX 13 11 1,
 oS 3 6 12,
 oV 7 13]
 .ret)
def r42 : List LRes := [.cell true 3 6, .slot 7]
theorem t42 : trOk Tryz.prog Tryz.f42 (vL [0, 1, 2, 3, 5, 6, 7]) c42 r42 := ⟨by kernel_rfl, by kernel_rfl⟩
def c43 : LCode :=
 sR [oB 3 0,
 oT 6 (.zero [zI, zI, .fsl 1 0 []]),
 oI 7 0]
 (sR [oK 12 3 3,
 oM 13 1,
 oC 14 11 [.u 12, .u 13],
 oW 11 14,
 oX 15 11 0,
 oX 16 11 1,
 oT 8 (.zero [zI, zI, zI, zI, zI, zI, zI, zI, zI, zI, .str [], .str [], .fsl 1 0 [], .bool false]),
 oS 14 8 15,
 oV 9 16]
 (.seq (sR [oM 17 9,
 oT 18 (.un .not (.u 17))]
 (cT 18
 (sR [oU 19 (.build [zI, zI, .fsl 1 0 []] []),
 oS 3 6 19,
 oI 7 3]
 .ret)
 .skip))
 (.seq (sR [oM 20 2,
 oC 21 76 [.u 20],
 oT 22 (.un .not (.u 21))]
 (cT 22
 (sR [oU 23 (.build [zI, zI, .fsl 1 0 []] []),
 oS 3 6 23,
 oI 7 22]
 .ret)
 .skip))
 (.seq (sR [oG 24 6 8,
 oL 25 1 24,
 oU 26 (.bin .neq (.u 25) (xI 4294967295)),
 oW 27 26,
 oY 28 27 (.faddr 3 (.t 8)),
 oY 29 27 (.load false 1 (.u 28)),
 oY 30 27 (.bin .neq (.u 29) (xI 0)),
 oT 31 (.pick (.u 27) (.u 30) (.c (.bool false)))]
 (cT 31
 (sR [oU 32 (.build [zI, zI, .fsl 1 0 []] []),
 oS 3 6 32,
 oI 7 1]
 .ret)
 .skip))
 (.seq (sR [oG 33 1 3,
 oL 34 1 33,
 oT 35 (.bin .eql (.u 34) (xI 1073741824))]
 (cT 35
 (sR [oU 36 (.build [zI, zI, .fsl 1 0 []] []),
 oS 3 6 36,
 oI 7 11]
 .ret)
 .skip))
 (sD [dF 0 [2] (oM 37 2),
 dF 1 [3] (oG 38 1 3),
 dT 2 [38] (oL 39 1 38),
 dF 3 [8] (oG 40 6 8),
 ⟨4, [40, 37], false, [2], oR 1 40 37⟩,
 dF 5 [8] (oG 41 7 8),
 dF 6 [41, 39] (oR 1 41 39)]
 (sR [oK 42 3 3,
 oK 43 14 8,
 oC 44 78 [.u 42, .u 43],
 oT 10 (.zero [zI, zI, .fsl 1 0 []]),
 oS 3 10 44]
 (sR [oG 45 1 10,
 oL 46 1 45,
 oU 47 (.bin .add (.u 46) (xI 1)),
 oG 48 1 10,
 oR 1 48 47]
 (sR [oK 49 3 10,
 oS 3 6 49,
 oI 7 0]
 .ret)))))))))
def r43 : List LRes := [.cell true 3 6, .slot 7]
theorem t43 : trOk Tryz.prog Tryz.f43 (vL [0, 1, 2, 3, 6, 7, 8, 9, 10, 18, 22, 31, 35]) c43 r43 := ⟨by kernel_rfl, by kernel_rfl⟩
def c44 : LCode :=
 sR [oB 4 0,
 oB 6 2,
 oB 7 3,
 oT 8 (.zero [zI, zI, .fsl 1 0 []]),
 oI 9 0,
 oI 10 0]
 (sR [oT 11 (.zero [zI]),
 oN (.store 1 (.t 11) (xI 0))]
 (sR [oK 14 3 4,
 oM 15 1,
 oU 16 (.mkf 81 [.t 11, .t 6, .t 7]),
 oC 17 23 [.u 14, .u 15, .u 16],
 oW 13 17,
 oX 18 13 0,
 oX 19 13 1,
 oS 3 4 18,
 oV 12 19]
 (.seq (sR [oM 20 12,
 oT 21 (.bin .neq (.u 20) (xI 0))]
 (cT 21
 (sR [oU 22 (.build [zI, zI, .fsl 1 0 []] []),
 oM 23 12,
 oS 3 8 22,
 oI 9 0,
 oV 10 23]
 .ret)
 .skip))
 (sD [dT 0 [4] (oK 24 3 4),
 dT 1 [11] (oU 25 (.load false 1 (.t 11))),
 ⟨2, [8, 24], false, [1], oS 3 8 24⟩,
 dF 3 [25] (oV 9 25),
 dF 4 [] (oI 10 0)]
 .ret))))
def r44 : List LRes := [.cell true 3 8, .slot 9, .slot 10]
theorem t44 : trOk Tryz.prog Tryz.f44 (vL [0, 1, 2, 3, 4, 6, 7, 8, 9, 10, 11, 12, 21]) c44 r44 := ⟨by kernel_rfl, by kernel_rfl⟩
def c45 : LCode :=
 sR [oB 4 0,
 oB 6 2,
 oT 8 (.zero [zI, zI, .fsl 1 0 []]),
 oI 9 0,
 oI 10 0]
 (sR [oK 16 3 4,
 oM 17 1,
 oC 18 11 [.u 16, .u 17],
 oW 15 18,
 oX 19 15 0,
 oX 20 15 1,
 oT 11 (.zero [zI, zI, zI, zI, zI, zI, zI, zI, zI, zI, .str [], .str [], .fsl 1 0 [], .bool false]),
 oS 14 11 19,
 oV 12 20]
 (.seq (sR [oM 21 12,
 oT 22 (.un .not (.u 21))]
 (cT 22
 (sR [oU 23 (.build [zI, zI, .fsl 1 0 []] []),
 oS 3 8 23,
 oI 9 0,
 oI 10 3]
 .ret)
 .skip))
 (.seq (sR [oG 24 12 11,
 oL 25 1 24,
 oU 26 (.lenL (.u 25)),
 oT 27 (.bin .geq (.u 26) (xI 8))]
 (cT 27
 (sR [oU 28 (.build [zI, zI, .fsl 1 0 []] []),
 oS 3 8 28,
 oI 9 0,
 oI 10 24]
 .ret)
 .skip))
 (sR [oI 13 0]
 (.seq (.block 0 (.loop (.seq (sR [oM 29 13,
 oG 30 12 11,
 oL 31 1 30,
 oU 32 (.lenL (.u 31)),
 oU 33 (.bin .lss (.u 29) (.u 32)),
 oW 34 33,
 oY 35 34 (.faddr 12 (.t 11)),
 oY 36 34 (.load false 1 (.u 35)),
 oY 37 34 (.mov (.t 13)),
 oY 38 34 (.iaS 4 (.u 36) (.u 37)),
 oY 39 34 (.faddr 0 (.u 38)),
 oY 40 34 (.load false 1 (.u 39)),
 oY 41 34 (.mov (.t 13)),
 oY 42 34 (.bin .eql (.u 40) (.u 41)),
 oT 43 (.pick (.u 34) (.u 42) (.c (.bool false)))]
 (cT 43
 .skip
 (.exit 0)))
 (.block 1 (.region [oM 44 13,
 oU 45 (.bin .add (.u 44) (xI 1)),
 oV 13 45])))))
 (sR [oG 46 12 11,
 oL 47 1 46,
 oM 48 13,
 oU 49 (.slL 4 (.u 47) none (some (.u 48)) none),
 oU 50 (.app 4 32 (.c (.fsl 1 0 [])) (.u 49)),
 oV 14 50]
 (sR [oM 51 14,
 oM 52 13,
 oK 53 2 6,
 oM 54 3,
 oU 55 (.build [zI, zI, zI, zI] [(0, 1, .u 52), (1, 2, .u 53), (3, 1, .u 54)]),
 oU 56 (.mkS 4 1 [zI, zI, zI, zI] [(0, 4, .u 55)]),
 oU 57 (.app 4 32 (.u 51) (.u 56)),
 oV 14 57]
 (sR [oM 58 14,
 oG 59 12 11,
 oL 60 1 59,
 oM 61 13,
 oU 62 (.slL 4 (.u 60) (some (.u 61)) none none),
 oU 63 (.app 4 32 (.u 58) (.u 62)),
 oG 64 12 11,
 oR 1 64 63]
 (sR [oK 65 3 4,
 oK 66 14 11,
 oC 67 78 [.u 65, .u 66],
 oM 68 13,
 oS 3 8 67,
 oV 9 68,
 oI 10 0]
 .ret)))))))))
def r45 : List LRes := [.cell true 3 8, .slot 9, .slot 10]
theorem t45 : trOk Tryz.prog Tryz.f45 (vL [0, 1, 2, 3, 4, 6, 8, 9, 10, 11, 12, 13, 14, 22, 27, 43]) c45 r45 := ⟨by kernel_rfl, by kernel_rfl⟩
def c46 : LCode :=
 sR [oB 3 0,
 oB 5 2,
 oT 6 (.zero [zI, zI, .fsl 1 0 []]),
 oI 7 0]
 (sR [oK 8 3 3,
 oM 9 1,
 oU 10 (.mkf 83 [.t 5]),
 oC 11 23 [.u 8, .u 9, .u 10],
 oX 12 11 0,
 oX 13 11 1,
 oS 3 6 12,
 oV 7 13]
 .ret)
def r46 : List LRes := [.cell true 3 6, .slot 7]
theorem t46 : trOk Tryz.prog Tryz.f46 (vL [0, 1, 2, 3, 5, 6, 7]) c46 r46 := ⟨by kernel_rfl, by kernel_rfl⟩
def c47 : LCode :=
 sR [oB 3 0,
 oT 6 (.zero [zI, zI, .fsl 1 0 []]),
 oI 7 0]
 (sR [oK 13 3 3,
 oM 14 1,
 oC 15 11 [.u 13, .u 14],
 oW 12 15,
 oX 16 12 0,
 oX 17 12 1,
 oT 8 (.zero [zI, zI, zI, zI, zI, zI, zI, zI, zI, zI, .str [], .str [], .fsl 1 0 [], .bool false]),
 oS 14 8 16,
 oV 9 17]
 (.seq (sR [oM 18 9,
 oT 19 (.un .not (.u 18))]
 (cT 19
 (sR [oU 20 (.build [zI, zI, .fsl 1 0 []] []),
 oS 3 6 20,
 oI 7 3]
 .ret)
 .skip))
 (sR [oT 10 (.mov (.c (.fsl 1 0 [])))]
 (.seq (sR [oI 11 0]
 (.block 0 (.loop (.seq (sR [oM 21 11,
 oG 22 12 8,
 oL 23 1 22,
 oU 24 (.lenL (.u 23)),
 oT 25 (.bin .lss (.u 21) (.u 24))]
 (cT 25
 .skip
 (.exit 0)))
 (.seq (.block 1 (sR [oG 28 12 8,
 oL 29 1 28,
 oM 30 11,
 oA 31 4 29 30,
 oF 32 0 31,
 oL 33 1 32,
 oM 34 2,
 oT 35 (.bin .neq (.u 33) (.u 34))]
 (cT 35
 (.region [oM 36 10,
 oG 37 12 8,
 oL 38 1 37,
 oM 39 11,
 oA 40 4 38 39,
 oJ 41 4 40,
 oU 42 (.mkS 4 1 [zI, zI, zI, zI] [(0, 4, .u 41)]),
 oU 43 (.app 4 32 (.u 36) (.u 42)),
 oV 10 43])
 .skip)))
 (.region [oM 26 11,
 oU 27 (.bin .add (.u 26) (xI 1)),
 oV 11 27]))))))
 (.seq (sR [oM 44 10,
 oU 45 (.lenL (.u 44)),
 oG 46 12 8,
 oL 47 1 46,
 oU 48 (.lenL (.u 47)),
 oT 49 (.bin .eql (.u 45) (.u 48))]
 (cT 49
 (sR [oU 50 (.build [zI, zI, .fsl 1 0 []] []),
 oS 3 6 50,
 oI 7 9]
 .ret)
 .skip))
 (sR [oM 51 10,
 oG 52 12 8,
 oR 1 52 51]
 (sR [oK 53 3 3,
 oK 54 14 8,
 oC 55 78 [.u 53, .u 54],
 oS 3 6 55,
 oI 7 0]
 .ret)))))))
def r47 : List LRes := [.cell true 3 6, .slot 7]
theorem t47 : trOk Tryz.prog Tryz.f47 (vL [0, 1, 2, 3, 6, 7, 8, 9, 10, 11, 19, 25, 35, 49]) c47 r47 := ⟨by kernel_rfl, by kernel_rfl⟩
def c48 : LCode :=
 sR [oT 2 (.mov (.c (.str [])))]
 (sR [oT 3 (.mov (.c (.str [])))]
 (.seq (sR [oM 5 0,
 oU 6 (.mkS 1 5 [zI] [(0, 1, xI 1), (1, 1, xI 1), (2, 1, xI 2), (3, 1, xI 2), (4, 1, xI 3)]),
 oC 7 31 [.u 5, .u 6],
 oV 4 7]
 (.block 0 (.loop (.seq (sR [oM 8 4,
 oT 9 (.bin .gtr (.u 8) (xI 0))]
 (cT 9
 .skip
 (.exit 0)))
 (.seq (.block 1 (.region [oM 12 3,
 oM 13 0,
 oU 14 (.mkS 1 5 [.str []] [(0, 1, (.c (.str [97]))), (1, 1, (.c (.str [98]))), (2, 1, (.c (.str [99]))), (3, 1, (.c (.str [108]))), (4, 1, (.c (.str [109])))]),
 oC 15 69 [.u 13, .u 14],
 oU 16 (.bin .add (.c (.str [47])) (.u 15)),
 oU 17 (.bin .add (.u 12) (.u 16)),
 oV 3 17]))
 (.region [oM 10 4,
 oU 11 (.bin .sub (.u 10) (xI 1)),
 oV 4 11]))))))
 (sR [oM 18 3,
 oV 2 18]
 .ret)))
def r48 : List LRes := [.slot 2]
theorem t48 : trOk Tryz.prog Tryz.f48 (vL [0, 2, 3, 4, 9]) c48 r48 := ⟨by kernel_rfl, by kernel_rfl⟩
def c49 : LCode :=
 sR [oB 3 0,
 oB 5 2,
 oT 6 (.zero [zI, zI, .fsl 1 0 []]),
 oI 7 0]
 (sR [oK 8 3 3,
 oM 9 1,
 oU 10 (.mkf 87 [.t 5]),
 oC 11 23 [.u 8, .u 9, .u 10],
 oX 12 11 0,
 oX 13 11 1,
 oS 3 6 12,
 oV 7 13]
 .ret)
def r49 : List LRes := [.cell true 3 6, .slot 7]
theorem t49 : trOk Tryz.prog Tryz.f49 (vL [0, 1, 2, 3, 5, 6, 7]) c49 r49 := ⟨by kernel_rfl, by kernel_rfl⟩
def c50 : LCode :=
 sR [oB 3 0,
 oB 5 2,
 oT 6 (.zero [zI, zI, .fsl 1 0 []]),
 oI 7 0]
 (sR [oK 11 3 3,
 oM 12 1,
 oC 13 11 [.u 11, .u 12],
 oW 10 13,
 oX 14 10 0,
 oX 15 10 1,
 oT 8 (.zero [zI, zI, zI, zI, zI, zI, zI, zI, zI, zI, .str [], .str [], .fsl 1 0 [], .bool false]),
 oS 14 8 14,
 oV 9 15]
 (.seq (sR [oM 16 9,
 oT 17 (.un .not (.u 16))]
 (cT 17
 (sR [oU 18 (.build [zI, zI, .fsl 1 0 []] []),
 oS 3 6 18,
 oI 7 3]
 .ret)
 .skip))
 (sR [oK 19 2 5,
 oG 20 8 8,
 oR 2 20 19]
 (sR [oK 21 3 3,
 oK 22 14 8,
 oC 23 78 [.u 21, .u 22],
 oS 3 6 23,
 oI 7 0]
 .ret))))
def r50 : List LRes := [.cell true 3 6, .slot 7]
theorem t50 : trOk Tryz.prog Tryz.f50 (vL [0, 1, 2, 3, 5, 6, 7, 8, 9, 17]) c50 r50 := ⟨by kernel_rfl, by kernel_rfl⟩
def c51 : LCode :=
 sR [oB 4 0,
 oB 6 2,
 oB 7 3,
 oT 8 (.zero [zI, zI, .fsl 1 0 []]),
 oI 9 0]
 (sR [oK 10 3 4,
 oM 11 1,
 oU 12 (.mkf 88 [.t 6, .t 7]),
 oC 13 23 [.u 10, .u 11, .u 12],
 oX 14 13 0,
 oX 15 13 1,
 oS 3 8 14,
 oV 9 15]
 .ret)
def r51 : List LRes := [.cell true 3 8, .slot 9]
theorem t51 : trOk Tryz.prog Tryz.f51 (vL [0, 1, 2, 3, 4, 6, 7, 8, 9]) c51 r51 := ⟨by kernel_rfl, by kernel_rfl⟩
def c52 : LCode :=
 sR [oB 4 0,
 oT 8 (.zero [zI, zI, .fsl 1 0 []]),
 oI 9 0]
 (sR [oK 13 3 4,
 oM 14 1,
 oC 15 11 [.u 13, .u 14],
 oW 12 15,
 oX 16 12 0,
 oX 17 12 1,
 oT 10 (.zero [zI, zI, zI, zI, zI, zI, zI, zI, zI, zI, .str [], .str [], .fsl 1 0 [], .bool false]),
 oS 14 10 16,
 oV 11 17]
 (.seq (sR [oM 18 11,
 oT 19 (.un .not (.u 18))]
 (cT 19
 (sR [oU 20 (.build [zI, zI, .fsl 1 0 []] []),
 oS 3 8 20,
 oI 9 3]
 .ret)
 .skip))
 (sR [oM 21 2,
 oM 22 3,
 oG 23 11 10,
 oR 1 23 21,
 oG 24 10 10,
 oR 1 24 22]
 (sR [oK 25 3 4,
 oK 26 14 10,
 oC 27 78 [.u 25, .u 26],
 oS 3 8 27,
 oI 9 0]
 .ret))))
def r52 : List LRes := [.cell true 3 8, .slot 9]
theorem t52 : trOk Tryz.prog Tryz.f52 (vL [0, 1, 2, 3, 4, 8, 9, 10, 11, 19]) c52 r52 := ⟨by kernel_rfl, by kernel_rfl⟩
def c53 : LCode :=
 sR [oB 2 0,
 oB 3 1,
 oP 4 false]
 (.seq (sR [oG 6 0 2,
 oL 7 1 6,
 oG 8 0 3,
 oL 9 1 8,
 oU 10 (.bin .neq (.u 7) (.u 9)),
 oW 11 10,
 oO 12 11 (.faddr 1 (.t 2)),
 oO 13 11 (.load false 1 (.u 12)),
 oO 14 11 (.faddr 1 (.t 3)),
 oO 15 11 (.load false 1 (.u 14)),
 oO 16 11 (.bin .neq (.u 13) (.u 15)),
 oH 17 11 16,
 oW 18 17,
 oO 19 18 (.faddr 2 (.t 2)),
 oO 20 18 (.load false 1 (.u 19)),
 oO 21 18 (.lenL (.u 20)),
 oO 22 18 (.faddr 2 (.t 3)),
 oO 23 18 (.load false 1 (.u 22)),
 oO 24 18 (.lenL (.u 23)),
 oO 25 18 (.bin .neq (.u 21) (.u 24)),
 oQ 26 18 25]
 (cT 26
 (sR [oP 4 false]
 .ret)
 .skip))
 (.seq (sR [oI 5 0]
 (.block 0 (.loop (.seq (sR [oM 27 5,
 oG 28 2 2,
 oL 29 1 28,
 oU 30 (.lenL (.u 29)),
 oT 31 (.bin .lss (.u 27) (.u 30))]
 (cT 31
 .skip
 (.exit 0)))
 (.seq (.block 1 (sD [dF 0 [2] (oG 34 2 2),
 dT 1 [34] (oL 35 1 34),
 dF 2 [5] (oM 36 5),
 dF 3 [35, 36] (oA 37 14 35 36),
 dT 4 [37] (oJ 38 14 37),
 dF 5 [3] (oG 39 2 3),
 dT 6 [39] (oL 40 1 39),
 dF 7 [5] (oM 41 5),
 dF 8 [40, 41] (oA 42 14 40 41),
 dT 9 [42] (oJ 43 14 42),
 dF 10 [38, 43] (oC 44 12 [.u 38, .u 43]),
 dF 11 [44] (oT 45 (.un .not (.u 44)))]
 (cT 45
 (sR [oP 4 false]
 .ret)
 .skip)))
 (.region [oM 32 5,
 oU 33 (.bin .add (.u 32) (xI 1)),
 oV 5 33]))))))
 (sR [oP 4 true]
 .ret)))
def r53 : List LRes := [.slot 4]
theorem t53 : trOk Tryz.prog Tryz.f53 (vL [0, 1, 2, 3, 4, 5, 26, 31, 45]) c53 r53 := ⟨by kernel_rfl, by kernel_rfl⟩
def c54 : LCode :=
 sR [oB 3 0,
 oB 5 2,
 oT 6 (.zero [zI, zI, .fsl 1 0 []]),
 oI 7 0]
 (sR [oK 8 3 3,
 oM 9 1,
 oU 10 (.mkf 89 [.t 5]),
 oC 11 23 [.u 8, .u 9, .u 10],
 oX 12 11 0,
 oX 13 11 1,
 oS 3 6 12,
 oV 7 13]
 .ret)
def r54 : List LRes := [.cell true 3 6, .slot 7]
theorem t54 : trOk Tryz.prog Tryz.f54 (vL [0, 1, 2, 3, 5, 6, 7]) c54 r54 := ⟨by kernel_rfl, by kernel_rfl⟩
def c55 : LCode :=
 sR [oB 3 0,
 oT 6 (.zero [zI, zI, .fsl 1 0 []]),
 oI 7 0]
 (sR [oK 11 3 3,
 oM 12 1,
 oC 13 11 [.u 11, .u 12],
 oW 10 13,
 oX 14 10 0,
 oX 15 10 1,
 oT 8 (.zero [zI, zI, zI, zI, zI, zI, zI, zI, zI, zI, .str [], .str [], .fsl 1 0 [], .bool false]),
 oS 14 8 14,
 oV 9 15]
 (.seq (sR [oM 16 9,
 oT 17 (.un .not (.u 16))]
 (cT 17
 (sR [oU 18 (.build [zI, zI, .fsl 1 0 []] []),
 oS 3 6 18,
 oI 7 3]
 .ret)
 .skip))
 (sR [oM 19 2,
 oG 20 13 8,
 oR 1 20 19]
 (sR [oK 21 3 3,
 oK 22 14 8,
 oC 23 78 [.u 21, .u 22],
 oS 3 6 23,
 oI 7 0]
 .ret))))
def r55 : List LRes := [.cell true 3 6, .slot 7]
theorem t55 : trOk Tryz.prog Tryz.f55 (vL [0, 1, 2, 3, 6, 7, 8, 9, 17]) c55 r55 := ⟨by kernel_rfl, by kernel_rfl⟩
def c56 : LCode :=
 sR [oB 4 0,
 oB 6 2,
 oB 7 3,
 oT 8 (.zero [zI, zI, .fsl 1 0 []]),
 oI 9 0]
 (sR [oK 10 3 4,
 oM 11 1,
 oU 12 (.mkf 90 [.t 6, .t 7]),
 oC 13 23 [.u 10, .u 11, .u 12],
 oX 14 13 0,
 oX 15 13 1,
 oS 3 8 14,
 oV 9 15]
 .ret)
def r56 : List LRes := [.cell true 3 8, .slot 9]
theorem t56 : trOk Tryz.prog Tryz.f56 (vL [0, 1, 2, 3, 4, 6, 7, 8, 9]) c56 r56 := ⟨by kernel_rfl, by kernel_rfl⟩
def c57 : LCode :=
 sR [oB 4 0,
 oT 8 (.zero [zI, zI, .fsl 1 0 []]),
 oI 9 0]
 (sR [oK 14 3 4,
 oM 15 1,
 oC 16 11 [.u 14, .u 15],
 oW 13 16,
 oX 17 13 0,
 oX 18 13 1,
 oT 10 (.zero [zI, zI, zI, zI, zI, zI, zI, zI, zI, zI, .str [], .str [], .fsl 1 0 [], .bool false]),
 oS 14 10 17,
 oV 11 18]
 (.seq (sR [oM 19 11,
 oT 20 (.un .not (.u 19))]
 (cT 20
 (sR [oU 21 (.build [zI, zI, .fsl 1 0 []] []),
 oS 3 8 21,
 oI 9 3]
 .ret)
 .skip))
 (sR [oK 23 3 4,
 oM 24 2,
 oC 25 11 [.u 23, .u 24],
 oW 22 25,
 oX 26 22 0,
 oX 27 22 1,
 oT 12 (.zero [zI, zI, zI, zI, zI, zI, zI, zI, zI, zI, .str [], .str [], .fsl 1 0 [], .bool false]),
 oS 14 12 26,
 oV 11 27]
 (.seq (sR [oM 28 11,
 oT 29 (.un .not (.u 28))]
 (cT 29
 (sR [oU 30 (.build [zI, zI, .fsl 1 0 []] []),
 oS 3 8 30,
 oI 9 3]
 .ret)
 .skip))
 (.seq (sR [oM 31 2,
 oU 32 (.bin .eql (.u 31) (xI 1)),
 oW 33 32,
 oO 34 33 (.faddr 3 (.t 10)),
 oO 35 33 (.load false 1 (.u 34)),
 oO 36 33 (.bin .neq (.u 35) (xI 0)),
 oO 37 33 (.mov (.u 36)),
 oY 38 37 (.faddr 3 (.t 10)),
 oY 39 37 (.load false 1 (.u 38)),
 oY 40 37 (.faddr 2 (.t 12)),
 oY 41 37 (.load false 1 (.u 40)),
 oY 42 37 (.bin .neq (.u 39) (.u 41)),
 oO 43 33 (.pick (.u 37) (.u 42) (.c (.bool false))),
 oQ 44 33 43]
 (cT 44
 (sR [oU 45 (.build [zI, zI, .fsl 1 0 []] []),
 oS 3 8 45,
 oI 9 1]
 .ret)
 .skip))
 (.seq (sR [oT 46 (.mov (.t 3))]
 (cT 46
 (sR [oK 47 3 4,
 oM 48 2,
 oC 49 38 [.u 47, .u 48],
 oX 50 49 0,
 oX 51 49 1,
 oS 3 8 50,
 oV 9 51]
 .ret)
 .skip))
 (sR [oK 52 3 4,
 oC 53 30 [.u 52],
 oS 3 8 53,
 oI 9 0]
 .ret)))))))
def r57 : List LRes := [.cell true 3 8, .slot 9]
theorem t57 : trOk Tryz.prog Tryz.f57 (vL [0, 1, 2, 3, 4, 8, 9, 10, 11, 12, 20, 29, 44, 46]) c57 r57 := ⟨by kernel_rfl, by kernel_rfl⟩
def c58 : LCode :=
 sR [oB 2 0,
 oB 3 1,
 oI 4 0]
 (sR [oG 5 2 2,
 oL 6 1 5,
 oU 7 (.mkf 92 [.t 3]),
 oC 8 91 [.u 6, .u 7],
 oV 4 8]
 .ret)
def r58 : List LRes := [.slot 4]
theorem t58 : trOk Tryz.prog Tryz.f58 (vL [0, 1, 2, 3, 4]) c58 r58 := ⟨by kernel_rfl, by kernel_rfl⟩
def c59 : LCode :=
 sR [oB 1 0,
 oT 2 (.zero [zI, zI, zI, zI, zI, zI, zI, zI, zI, zI, .str [], .str [], .fsl 1 0 [], .bool false])]
 (sR [oG 3 12 1,
 oL 4 1 3,
 oC 5 93 [.u 4, (.c (.fn 94))],
 oG 6 12 1,
 oR 1 6 5]
 (sR [oK 7 14 1,
 oS 14 2 7]
 .ret))
def r59 : List LRes := [.cell true 14 2]
theorem t59 : trOk Tryz.prog Tryz.f59 (vL [0, 1, 2]) c59 r59 := ⟨by kernel_rfl, by kernel_rfl⟩
def c61 : LCode :=
 sR [oB 1 0,
 oT 2 (.zero [zI, zI, .fsl 1 0 []])]
 (sR [oK 3 2 1,
 oU 4 (.build [zI, zI, zI, zI, zI, zI, zI, zI, zI, zI, .str [], .str [], .fsl 1 0 [], .bool false] [(0, 1, xI 1), (6, 1, xI 4294967295), (7, 1, xI 4294967295), (8, 2, .u 3), (10, 1, (.c (.str [105, 110, 105, 116]))), (11, 1, (.c (.str [47, 105, 110, 105, 116]))), (13, 1, (.c (.bool true)))]),
 oU 5 (.mkS 14 1 [zI, zI, zI, zI, zI, zI, zI, zI, zI, zI, .str [], .str [], .fsl 1 0 [], .bool false] [(0, 14, .u 4)]),
 oU 6 (.build [zI, zI, .fsl 1 0 []] [(0, 1, xI 2), (1, 1, xI 1), (2, 1, .u 5)]),
 oS 3 2 6]
 .ret)
def r61 : List LRes := [.cell true 3 2]
theorem t61 : trOk Tryz.prog Tryz.f61 (vL [0, 1, 2]) c61 r61 := ⟨by kernel_rfl, by kernel_rfl⟩
def c67 : LCode :=
 sR [oI 2 0,
 oI 3 0,
 oI 4 0,
 oI 5 0]
 (sR [oM 7 0,
 oC 8 96 [.u 7],
 oT 6 (.zero [.str [], zI, zI, zI, zI]),
 oS 5 6 8]
 (sD [dF 0 [6] (oG 9 1 6),
 dT 1 [9] (oL 10 1 9),
 dF 2 [6] (oG 11 2 6),
 dT 3 [11] (oL 12 1 11),
 dF 4 [6] (oG 13 3 6),
 dT 5 [13] (oL 14 1 13),
 dF 6 [6] (oG 15 4 6),
 dT 7 [15] (oL 16 1 15),
 dF 8 [10] (oV 2 10),
 dF 9 [12] (oV 3 12),
 dF 10 [14] (oV 4 14),
 dF 11 [16] (oV 5 16)]
 .ret))
def r67 : List LRes := [.slot 2, .slot 3, .slot 4, .slot 5]
theorem t67 : trOk Tryz.prog Tryz.f67 (vL [0, 2, 3, 4, 5, 6]) c67 r67 := ⟨by kernel_rfl, by kernel_rfl⟩
def c68 : LCode :=
 sR [oT 2 (.mov (.c (.str [])))]
 (sR [oT 3 (.mov (.c (.str [])))]
 (.seq (sR [oM 6 0,
 oC 7 22 [.u 6, xI 6],
 oT 8 (.bin .gtr (.u 7) (xI 0))]
 (cT 8
 (.region [oT 3 (.mov (.c (.str [47])))])
 .skip))
 (sR [oM 9 0,
 oU 10 (.mkS 1 7 [zI] [(0, 1, xI 1), (1, 1, xI 1), (2, 1, xI 2), (3, 1, xI 2), (4, 1, xI 3), (5, 1, xI 0), (6, 1, xI 4)]),
 oC 11 31 [.u 9, .u 10],
 oV 4 11]
 (.seq (sR [oI 5 0]
 (.block 0 (.loop (.seq (sR [oM 12 5,
 oM 13 4,
 oT 14 (.bin .lss (.u 12) (.u 13))]
 (cT 14
 .skip
 (.exit 0)))
 (.seq (.block 1 (.seq (sR [oM 17 5,
 oT 18 (.bin .gtr (.u 17) (xI 0))]
 (cT 18
 (.region [oM 19 3,
 oU 20 (.bin .add (.u 19) (.c (.str [47]))),
 oV 3 20])
 .skip))
 (sR [oM 21 0,
 oC 22 22 [.u 21, xI 8],
 oT 23 (.bin .eql (.u 22) (xI 7))]
 (cT 23
 (.region [oM 24 3,
 oM 25 0,
 oU 26 (.mkS 1 4 [.str []] [(0, 1, (.c (.str [46]))), (1, 1, (.c (.str [46, 46]))), (2, 1, (.c (.str []))), (3, 1, (.c (.str [97, 47, 47, 98])))]),
 oC 27 69 [.u 25, .u 26],
 oU 28 (.bin .add (.u 24) (.u 27)),
 oV 3 28])
 (.region [oM 29 3,
 oM 30 0,
 oC 31 110 [.u 30],
 oU 32 (.bin .add (.u 29) (.u 31)),
 oV 3 32])))))
 (.region [oM 15 5,
 oU 16 (.bin .add (.u 15) (xI 1)),
 oV 5 16]))))))
 (.seq (sR [oM 33 0,
 oC 34 22 [.u 33, xI 8],
 oT 35 (.bin .eql (.u 34) (xI 7))]
 (cT 35
 (.region [oM 36 3,
 oU 37 (.bin .add (.u 36) (.c (.str [47]))),
 oV 3 37])
 .skip))
 (sR [oM 38 3,
 oV 2 38]
 .ret))))))
def r68 : List LRes := [.slot 2]
theorem t68 : trOk Tryz.prog Tryz.f68 (vL [0, 2, 3, 4, 5, 8, 14, 18, 23, 35]) c68 r68 := ⟨by kernel_rfl, by kernel_rfl⟩
def c69 : LCode :=
 sR [oT 4 (.mov (.c (.str [])))]
 (sR [oM 5 1,
 oM 6 0,
 oM 7 1,
 oU 8 (.lenL (.u 7)),
 oC 9 22 [.u 6, .u 8],
 oA 10 1 5 9,
 oL 11 1 10,
 oV 4 11]
 .ret)
def r69 : List LRes := [.slot 4]
theorem t69 : trOk Tryz.prog Tryz.f69 (vL [0, 1, 4]) c69 r69 := ⟨by kernel_rfl, by kernel_rfl⟩
def c70 : LCode :=
 sR [oB 1 0,
 oT 2 (.zero [zI, zI, .fsl 1 0 []])]
 (sR [oG 3 2 1,
 oL 4 1 3,
 oC 5 111 [.u 4, (.c (.fn 59))],
 oG 6 2 1,
 oR 1 6 5]
 (sR [oK 7 3 1,
 oS 3 2 7]
 .ret))
def r70 : List LRes := [.cell true 3 2]
theorem t70 : trOk Tryz.prog Tryz.f70 (vL [0, 1, 2]) c70 r70 := ⟨by kernel_rfl, by kernel_rfl⟩
def c71 : LCode :=
 sR [oT 6 (.mov (.c (.fsl 1 0 [])))]
 (sR [oM 8 0,
 oM 9 1,
 oM 10 2,
 oM 11 0,
 oU 12 (.lenL (.u 11)),
 oU 13 (.slL 14 (.u 8) (some (.u 9)) (some (.u 10)) (some (.u 12)))]
 (.seq (sR [oM 14 1,
 oM 15 2,
 oT 16 (.bin .eql (.u 14) (.u 15))]
 (cT 16
 (sR [oM 17 0,
 oV 6 17]
 .ret)
 .skip))
 (sR [oM 18 0,
 oU 19 (.lenL (.u 18)),
 oV 7 19]
 (sD [dF 0 [0] (oM 20 0),
 dF 1 [1] (oM 21 1),
 dF 2 [20, 21] (oU 22 (.slL 14 (.u 20) none (some (.u 21)) none)),
 dF 3 [0] (oM 23 0),
 dF 4 [2] (oM 24 2),
 dF 5 [23, 24] (oU 25 (.slL 14 (.u 23) (some (.u 24)) none none)),
 dF 6 [22, 25] (oU 26 (.app 14 144 (.u 22) (.u 25))),
 dF 7 [26] (oV 0 26)]
 (sR [oM 27 0,
 oM 28 0,
 oU 29 (.lenL (.u 28)),
 oM 30 7,
 oU 31 (.slL 14 (.u 27) (some (.u 29)) (some (.u 30)) none),
 oN (.clear 14 [zI, zI, zI, zI, zI, zI, zI, zI, zI, zI, .str [], .str [], .fsl 1 0 [], .bool false] (.u 31))]
 (sR [oM 32 0,
 oV 6 32]
 .ret))))))
def r71 : List LRes := [.slot 6]
theorem t71 : trOk Tryz.prog Tryz.f71 (vL [0, 1, 2, 6, 7, 16]) c71 r71 := ⟨by kernel_rfl, by kernel_rfl⟩
def c72 : LCode :=
 sR [oI 6 0]
 (.seq (sR [oM 8 0,
 oZ 9 8,
 oF 10 2 9,
 oL 11 1 10,
 oU 12 (.lenL (.u 11)),
 oU 13 (.bin .geq (.u 12) (xI 16)),
 oW 14 13,
 oO 15 14 (.mov (.t 0)),
 oO 16 14 (.nilc (.u 15)),
 oO 17 14 (.faddr 0 (.u 16)),
 oO 18 14 (.load false 1 (.u 17)),
 oO 19 14 (.bin .geq (.u 18) (xI 1073741824)),
 oQ 20 14 19]
 (cT 20
 (sR [oI 6 11]
 .ret)
 .skip))
 (sR [oM 21 1,
 oZ 22 21,
 oJ 23 14 22,
 oC 24 59 [.u 23],
 oT 7 (.zero [zI, zI, zI, zI, zI, zI, zI, zI, zI, zI, .str [], .str [], .fsl 1 0 [], .bool false]),
 oS 14 7 24]
 (sD [dT 0 [2] (oU 25 (.load false 1 (.t 2))),
 dT 1 [3] (oU 26 (.load false 1 (.t 3))),
 dF 2 [7] (oG 27 0 7),
 ⟨3, [27, 25], false, [1], oR 1 27 25⟩,
 dF 4 [7] (oG 28 1 7),
 dF 5 [28, 26] (oR 1 28 26)]
 (sD [dF 0 [0] (oM 29 0),
 dF 1 [0] (oM 30 0),
 dF 2 [30] (oZ 31 30),
 dF 3 [31] (oF 32 2 31),
 dT 4 [32] (oL 33 1 32),
 dT 5 [7] (oK 34 14 7),
 dF 6 [34] (oU 35 (.mkS 14 1 [zI, zI, zI, zI, zI, zI, zI, zI, zI, zI, .str [], .str [], .fsl 1 0 [], .bool false] [(0, 14, .u 34)])),
 dF 7 [33, 35] (oU 36 (.app 14 144 (.u 33) (.u 35))),
 dF 8 [29] (oZ 37 29),
 dF 9 [37] (oF 38 2 37),
 dF 10 [38, 36] (oR 1 38 36)]
 (sR [oM 39 0,
 oZ 40 39,
 oF 41 0 40,
 oL 42 1 41,
 oU 43 (.bin .add (.u 42) (xI 1)),
 oZ 44 39,
 oF 45 0 44,
 oR 1 45 43]
 (sR [oI 6 0]
 .ret))))))
def r72 : List LRes := [.slot 6]
theorem t72 : trOk Tryz.prog Tryz.f72 (vL [0, 1, 2, 3, 6, 7, 20]) c72 r72 := ⟨by kernel_rfl, by kernel_rfl⟩
def c73 : LCode :=
 sR [oI 5 0]
 (sD [dT 0 [2] (oU 6 (.load false 1 (.t 2))),
 dF 1 [1] (oM 7 1),
 dF 2 [7] (oZ 8 7),
 dF 3 [8] (oF 9 3 8),
 dT 4 [9] (oL 10 1 9),
 dF 5 [10] (oU 11 (.bin .eql (.u 10) (xI 0))),
 dF 6 [1] (oM 12 1),
 dF 7 [12] (oZ 13 12),
 dF 8 [13] (oF 14 2 13),
 dF 9 [1] (oM 15 1),
 dF 10 [15] (oZ 16 15),
 dF 11 [16] (oF 17 3 16),
 dF 12 [6, 11, 14, 17] (oC 18 74 [.u 6, .u 11, .u 14, .u 17]),
 dF 13 [18] (oV 5 18)]
 .ret)
def r73 : List LRes := [.slot 5]
theorem t73 : trOk Tryz.prog Tryz.f73 (vL [0, 1, 2, 5]) c73 r73 := ⟨by kernel_rfl, by kernel_rfl⟩
def c74 : LCode :=
 sR [oI 8 0]
 (.seq (.block 0 (sR [oM 10 0,
 oC 11 75 [.u 10],
 oU 12 (.un .not (.u 11)),
 oV 9 12]
 (cT 9
 (sR [oI 8 22]
 .ret)
 (sR [oM 14 1,
 oV 13 14]
 (cT 13
 (.region [oM 15 2,
 oM 16 3,
 oM 17 0,
 oM 18 0,
 oZ 19 15,
 oR 1 19 17,
 oZ 20 16,
 oR 1 20 18])
 (.seq (sR [oM 22 0,
 oM 23 2,
 oZ 24 23,
 oL 25 1 24,
 oU 26 (.bin .eql (.u 22) (.u 25)),
 oV 21 26]
 (cT 21
 .skip
 (.region [oM 27 0,
 oM 28 3,
 oZ 29 28,
 oL 30 1 29,
 oU 31 (.bin .eql (.u 27) (.u 30)),
 oV 21 31])))
 (cT 21
 (.region [oM 32 3,
 oM 33 0,
 oZ 34 32,
 oR 1 34 33])
 (sR [oI 8 1]
 .ret))))))))
 (sR [oI 8 0]
 .ret))
def r74 : List LRes := [.slot 8]
theorem t74 : trOk Tryz.prog Tryz.f74 (vL [0, 1, 2, 3, 8, 9, 13, 21]) c74 r74 := ⟨by kernel_rfl, by kernel_rfl⟩
def c75 : LCode :=
 sR [oP 2 false]
 (sR [oM 3 0,
 oU 4 (.bin .geq (.u 3) (xI 0)),
 oW 5 4,
 oY 6 5 (.mov (.t 0)),
 oY 7 5 (.bin .lss (.u 6) (xI 4294967295)),
 oU 8 (.pick (.u 5) (.u 7) (.c (.bool false))),
 oV 2 8]
 .ret)
def r75 : List LRes := [.slot 2]
theorem t75 : trOk Tryz.prog Tryz.f75 (vL [0, 2]) c75 r75 := ⟨by kernel_rfl, by kernel_rfl⟩
def c76 : LCode :=
 sR [oP 2 false]
 (sR [oM 3 0,
 oU 4 (.bin .geq (.u 3) (xI 0)),
 oW 5 4,
 oY 6 5 (.mov (.t 0)),
 oY 7 5 (.bin .lss (.u 6) (xI 4294967295)),
 oU 8 (.pick (.u 5) (.u 7) (.c (.bool false))),
 oV 2 8]
 .ret)
def r76 : List LRes := [.slot 2]
theorem t76 : trOk Tryz.prog Tryz.f76 (vL [0, 2]) c76 r76 := ⟨by kernel_rfl, by kernel_rfl⟩
def c77 : LCode :=
 sR [oI 8 0,
 oI 9 0,
 oI 10 0]
 (.seq (sR [oT 11 (.mov (.t 0))]
 (cT 11
 (sR [oM 12 3,
 oM 13 3,
 oV 8 12,
 oV 9 13,
 oI 10 0]
 .ret)
 .skip))
 (.seq (sR [oM 14 3,
 oM 15 1,
 oU 16 (.bin .eql (.u 14) (.u 15)),
 oW 17 16,
 oO 18 17 (.mov (.t 3)),
 oO 19 17 (.mov (.t 2)),
 oO 20 17 (.bin .eql (.u 18) (.u 19)),
 oQ 21 17 20]
 (cT 21
 (sR [oM 22 1,
 oM 23 3,
 oV 8 22,
 oV 9 23,
 oI 10 0]
 .ret)
 .skip))
 (sR [oI 8 0,
 oI 9 0,
 oI 10 1]
 .ret)))
def r77 : List LRes := [.slot 8, .slot 9, .slot 10]
theorem t77 : trOk Tryz.prog Tryz.f77 (vL [0, 1, 2, 3, 8, 9, 10, 11, 21]) c77 r77 := ⟨by kernel_rfl, by kernel_rfl⟩
def c78 : LCode :=
 sR [oB 2 0,
 oB 3 1,
 oT 4 (.zero [zI, zI, .fsl 1 0 []])]
 (sR [oK 7 3 2,
 oC 8 30 [.u 7],
 oT 5 (.zero [zI, zI, .fsl 1 0 []]),
 oS 3 5 8]
 (.seq (sR [oI 6 0]
 (.block 0 (.loop (.seq (sR [oM 9 6,
 oG 10 2 5,
 oL 11 1 10,
 oU 12 (.lenL (.u 11)),
 oT 13 (.bin .lss (.u 9) (.u 12))]
 (cT 13
 .skip
 (.exit 0)))
 (.seq (.block 1 (sD [dF 0 [5] (oG 16 2 5),
 dT 1 [16] (oL 17 1 16),
 dF 2 [6] (oM 18 6),
 dF 3 [17, 18] (oA 19 14 17 18),
 dF 4 [19] (oF 20 0 19),
 dT 5 [20] (oL 21 1 20),
 dF 6 [3] (oG 22 0 3),
 dT 7 [22] (oL 23 1 22),
 dF 8 [21, 23] (oT 24 (.bin .eql (.u 21) (.u 23)))]
 (cT 24
 (.region [oG 25 2 5,
 oL 26 1 25,
 oM 27 6,
 oK 28 14 3,
 oA 29 14 26 27,
 oR 14 29 28])
 .skip)))
 (.region [oM 14 6,
 oU 15 (.bin .add (.u 14) (xI 1)),
 oV 6 15]))))))
 (sR [oK 30 3 5,
 oS 3 4 30]
 .ret)))
def r78 : List LRes := [.cell true 3 4]
theorem t78 : trOk Tryz.prog Tryz.f78 (vL [0, 1, 2, 3, 4, 5, 6, 13, 24]) c78 r78 := ⟨by kernel_rfl, by kernel_rfl⟩
def c79 : LCode :=
 sR [oI 5 0]
 (sD [dT 0 [2] (oU 6 (.load false 1 (.t 2))),
 dF 1 [1] (oM 7 1),
 dF 2 [7] (oZ 8 7),
 dF 3 [8] (oF 9 3 8),
 dT 4 [9] (oL 10 1 9),
 dF 5 [10] (oU 11 (.bin .eql (.u 10) (xI 0))),
 dF 6 [1] (oM 12 1),
 dF 7 [12] (oZ 13 12),
 dF 8 [13] (oF 14 4 13),
 dF 9 [1] (oM 15 1),
 dF 10 [15] (oZ 16 15),
 dF 11 [16] (oF 17 5 16),
 dF 12 [6, 11, 14, 17] (oC 18 74 [.u 6, .u 11, .u 14, .u 17]),
 dF 13 [18] (oV 5 18)]
 .ret)
def r79 : List LRes := [.slot 5]
theorem t79 : trOk Tryz.prog Tryz.f79 (vL [0, 1, 2, 5]) c79 r79 := ⟨by kernel_rfl, by kernel_rfl⟩
def c80 : LCode :=
 sR [oI 5 0]
 (.seq (.block 0 (sR [oU 7 (.load false 1 (.t 2)),
 oC 8 75 [.u 7],
 oU 9 (.un .not (.u 8)),
 oV 6 9]
 (cT 6
 (sR [oI 5 22]
 .ret)
 (sR [oM 11 1,
 oZ 12 11,
 oF 13 6 12,
 oL 14 1 13,
 oU 15 (.bin .neq (.u 14) (xI 4294967295)),
 oW 16 15,
 oY 17 16 (.mov (.t 1)),
 oY 18 16 (.nilc (.u 17)),
 oY 19 16 (.faddr 3 (.u 18)),
 oY 20 16 (.load false 1 (.u 19)),
 oY 21 16 (.bin .neq (.u 20) (xI 0)),
 oU 22 (.pick (.u 16) (.u 21) (.c (.bool false))),
 oV 10 22]
 (cT 10
 (sR [oI 5 1]
 .ret)
 (sR [oM 24 0,
 oZ 25 24,
 oF 26 1 25,
 oL 27 1 26,
 oU 28 (.bin .geq (.u 27) (xI 1073741824)),
 oV 23 28]
 (cT 23
 (sR [oI 5 11]
 .ret)
 .skip)))))))
 (sD [dF 0 [1] (oM 29 1),
 dF 1 [1] (oM 30 1),
 dT 2 [2] (oU 31 (.load false 1 (.t 2))),
 dF 3 [0] (oM 32 0),
 dF 4 [32] (oZ 33 32),
 dF 5 [33] (oF 34 1 33),
 dT 6 [34] (oL 35 1 34),
 dF 7 [29] (oZ 36 29),
 dF 8 [36] (oF 37 6 36),
 dF 9 [37, 31] (oR 1 37 31),
 dF 10 [30] (oZ 38 30),
 dF 11 [38] (oF 39 7 38),
 dF 12 [39, 35] (oR 1 39 35)]
 (sR [oM 40 0,
 oZ 41 40,
 oF 42 1 41,
 oL 43 1 42,
 oU 44 (.bin .add (.u 43) (xI 1)),
 oZ 45 40,
 oF 46 1 45,
 oR 1 46 44]
 (sR [oI 5 0]
 .ret))))
def r80 : List LRes := [.slot 5]
theorem t80 : trOk Tryz.prog Tryz.f80 (vL [0, 1, 2, 5, 6, 10, 23]) c80 r80 := ⟨by kernel_rfl, by kernel_rfl⟩
def c81 : LCode :=
 sR [oI 7 0]
 (.seq (sR [oM 8 1,
 oZ 9 8,
 oF 10 12 9,
 oL 11 1 10,
 oU 12 (.lenL (.u 11)),
 oT 13 (.bin .geq (.u 12) (xI 8))]
 (cT 13
 (sR [oI 7 24]
 .ret)
 .skip))
 (.seq (.block 0 (.loop (.seq (sD [dT 0 [2] (oU 14 (.load false 1 (.t 2))),
 dF 1 [1] (oM 15 1),
 dF 2 [15] (oZ 16 15),
 dF 3 [16] (oF 17 12 16),
 dT 4 [17] (oL 18 1 17),
 dF 5 [18] (oU 19 (.lenL (.u 18))),
 dF 6 [14, 19] (oU 20 (.bin .lss (.u 14) (.u 19))),
 dF 7 [20] (oW 21 20),
 dF 8 [1, 21] (oY 22 21 (.mov (.t 1))),
 dF 9 [22, 21] (oY 23 21 (.nilc (.u 22))),
 dF 10 [23, 21] (oY 24 21 (.faddr 12 (.u 23))),
 dT 11 [24, 21] (oY 25 21 (.load false 1 (.u 24))),
 dT 12 [2, 21] (oY 26 21 (.load false 1 (.t 2))),
 dF 13 [25, 26, 21] (oY 27 21 (.iaS 4 (.u 25) (.u 26))),
 dF 14 [27, 21] (oY 28 21 (.faddr 0 (.u 27))),
 dT 15 [28, 21] (oY 29 21 (.load false 1 (.u 28))),
 dT 16 [2, 21] (oY 30 21 (.load false 1 (.t 2))),
 dF 17 [29, 30, 21] (oY 31 21 (.bin .eql (.u 29) (.u 30))),
 dF 18 [21, 31] (oT 32 (.pick (.u 21) (.u 31) (.c (.bool false))))]
 (cT 32
 .skip
 (.exit 0)))
 (.block 1 (.region [oU 33 (.load false 1 (.t 2)),
 oU 34 (.bin .add (.u 33) (xI 1)),
 oS 1 2 34])))))
 (sD [dF 0 [1] (oM 35 1),
 dF 1 [1] (oM 36 1),
 dF 2 [36] (oZ 37 36),
 dF 3 [37] (oF 38 12 37),
 dT 4 [38] (oL 39 1 38),
 dT 5 [2] (oU 40 (.load false 1 (.t 2))),
 dT 6 [2] (oU 41 (.load false 1 (.t 2))),
 dT 7 [3] (oK 42 2 3),
 dT 8 [4] (oU 43 (.load false 1 (.t 4))),
 dF 9 [41, 42, 43] (oU 44 (.build [zI, zI, zI, zI] [(0, 1, .u 41), (1, 2, .u 42), (3, 1, .u 43)])),
 dF 10 [44] (oU 45 (.mkS 4 1 [zI, zI, zI, zI] [(0, 4, .u 44)])),
 dF 11 [39, 40, 45] (oC 46 82 [.u 39, .u 40, .u 45]),
 dF 12 [35] (oZ 47 35),
 dF 13 [47] (oF 48 12 47),
 dF 14 [48, 46] (oR 1 48 46)]
 (sR [oI 7 0]
 .ret))))
def r81 : List LRes := [.slot 7]
theorem t81 : trOk Tryz.prog Tryz.f81 (vL [0, 1, 2, 3, 4, 7, 13, 32]) c81 r81 := ⟨by kernel_rfl, by kernel_rfl⟩
def c82 : LCode :=
 sR [oT 6 (.mov (.c (.fsl 1 0 [])))]
 (sR [oM 10 0,
 oM 11 1,
 oU 12 (.slL 4 (.u 10) (some (.u 11)) none none)]
 (sR [oM 13 2,
 oU 14 (.lenL (.u 13)),
 oV 7 14]
 (.seq (sR [oM 15 7,
 oT 16 (.bin .eql (.u 15) (xI 0))]
 (cT 16
 (sR [oM 17 0,
 oV 6 17]
 .ret)
 .skip))
 (sR [oM 18 0,
 oU 19 (.lenL (.u 18)),
 oV 8 19]
 (.seq (sR [oM 20 1,
 oM 21 8,
 oT 22 (.bin .eql (.u 20) (.u 21))]
 (cT 22
 (sR [oM 23 0,
 oM 24 2,
 oU 25 (.app 4 32 (.u 23) (.u 24)),
 oV 6 25]
 .ret)
 .skip))
 (.seq (sR [oM 26 8,
 oM 27 7,
 oU 28 (.bin .add (.u 26) (.u 27)),
 oM 29 0,
 oU 30 (.cap (.u 29)),
 oT 31 (.bin .gtr (.u 28) (.u 30))]
 (cT 31
 (sR [oM 32 0,
 oM 33 1,
 oU 34 (.slL 4 (.u 32) none (some (.u 33)) none),
 oM 35 8,
 oM 36 7,
 oU 37 (.bin .add (.u 35) (.u 36)),
 oM 38 1,
 oU 39 (.bin .sub (.u 37) (.u 38)),
 oU 40 (.appZ 4 32 [zI, zI, zI, zI] (.u 34) (.u 39)),
 oV 9 40]
 (sR [oM 41 9,
 oM 42 1,
 oU 43 (.slL 4 (.u 41) (some (.u 42)) none none),
 oM 44 2,
 oU 45 (.copy 4 (.u 43) (.u 44))]
 (sD [dF 0 [9] (oM 46 9),
 dF 1 [1] (oM 47 1),
 dF 2 [7] (oM 48 7),
 dF 3 [47, 48] (oU 49 (.bin .add (.u 47) (.u 48))),
 dF 4 [46, 49] (oU 50 (.slL 4 (.u 46) (some (.u 49)) none none)),
 dF 5 [0] (oM 51 0),
 dF 6 [1] (oM 52 1),
 dF 7 [51, 52] (oU 53 (.slL 4 (.u 51) (some (.u 52)) none none)),
 dF 8 [50, 53] (oU 54 (.copy 4 (.u 50) (.u 53)))]
 (sR [oM 55 9,
 oV 6 55]
 .ret))))
 .skip))
 (sR [oM 56 0,
 oM 57 8,
 oM 58 7,
 oU 59 (.bin .add (.u 57) (.u 58)),
 oU 60 (.slL 4 (.u 56) none (some (.u 59)) none),
 oV 0 60]
 (.seq (sR [oM 61 2,
 oM 62 0,
 oM 63 1,
 oM 64 7,
 oU 65 (.bin .add (.u 63) (.u 64)),
 oU 66 (.slL 4 (.u 62) (some (.u 65)) none none),
 oC 67 112 [.u 61, .u 66],
 oT 68 (.un .not (.u 67))]
 (cT 68
 (sD [dF 0 [0] (oM 69 0),
 dF 1 [1] (oM 70 1),
 dF 2 [7] (oM 71 7),
 dF 3 [70, 71] (oU 72 (.bin .add (.u 70) (.u 71))),
 dF 4 [69, 72] (oU 73 (.slL 4 (.u 69) (some (.u 72)) none none)),
 dF 5 [0] (oM 74 0),
 dF 6 [1] (oM 75 1),
 dF 7 [74, 75] (oU 76 (.slL 4 (.u 74) (some (.u 75)) none none)),
 dF 8 [73, 76] (oU 77 (.copy 4 (.u 73) (.u 76)))]
 (sR [oM 78 0,
 oM 79 1,
 oU 80 (.slL 4 (.u 78) (some (.u 79)) none none),
 oM 81 2,
 oU 82 (.copy 4 (.u 80) (.u 81))]
 (sR [oM 83 0,
 oV 6 83]
 .ret)))
 .skip))
 (sR [oM 84 0,
 oM 85 8,
 oU 86 (.slL 4 (.u 84) (some (.u 85)) none none),
 oM 87 2,
 oU 88 (.copy 4 (.u 86) (.u 87))]
 (sR [oM 89 0,
 oM 90 1,
 oU 91 (.slL 4 (.u 89) (some (.u 90)) none none),
 oM 92 7,
 oC 93 113 [.u 91, .u 92]]
 (sR [oM 94 0,
 oV 6 94]
 .ret)))))))))))
def r82 : List LRes := [.slot 6]
theorem t82 : trOk Tryz.prog Tryz.f82 (vL [0, 1, 2, 6, 7, 8, 9, 16, 22, 31, 68]) c82 r82 := ⟨by kernel_rfl, by kernel_rfl⟩
def c83 : LCode :=
 sR [oI 5 0]
 (sR [oM 7 1,
 oZ 8 7,
 oF 9 12 8,
 oL 10 1 9,
 oU 11 (.mkf 85 [.t 2]),
 oC 12 84 [.u 10, .u 11],
 oV 6 12]
 (.seq (sR [oM 13 6,
 oT 14 (.bin .lss (.u 13) (xI 0))]
 (cT 14
 (sR [oI 5 9]
 .ret)
 .skip))
 (sR [oM 15 1,
 oM 16 1,
 oZ 17 16,
 oF 18 12 17,
 oL 19 1 18,
 oM 20 6,
 oM 21 6,
 oU 22 (.bin .add (.u 21) (xI 1)),
 oC 23 86 [.u 19, .u 20, .u 22],
 oZ 24 15,
 oF 25 12 24,
 oR 1 25 23]
 (sR [oI 5 0]
 .ret))))
def r83 : List LRes := [.slot 5]
theorem t83 : trOk Tryz.prog Tryz.f83 (vL [0, 1, 2, 5, 6, 14]) c83 r83 := ⟨by kernel_rfl, by kernel_rfl⟩
def c84 : LCode :=
 sR [oI 4 0]
 (.seq (sR [oM 6 0,
 oT 7 (.lenL (.u 6)),
 oI 8 0]
 (.block 0 (.loop (sR [oT 9 (.bin .lss (.t 8) (.t 7))]
 (.seq (cT 9
 .skip
 (.exit 0))
 (.seq (.block 1 (sR [oM 10 8,
 oV 5 10]
 (sR [oM 11 1,
 oM 12 0,
 oM 13 5,
 oA 14 4 12 13,
 oJ 15 4 14,
 oT 16 (.callV (.u 11) [.u 15])]
 (cT 16
 (sR [oM 17 5,
 oV 4 17]
 .ret)
 .skip))))
 (.region [oU 18 (.bin .add (.t 8) (xI 1)),
 oV 8 18])))))))
 (sR [oI 4 (-1)]
 .ret))
def r84 : List LRes := [.slot 4]
theorem t84 : trOk Tryz.prog Tryz.f84 (vL [0, 1, 4, 5, 7, 8, 9, 16]) c84 r84 := ⟨by kernel_rfl, by kernel_rfl⟩
def c85 : LCode :=
 sR [oB 2 0,
 oP 3 false]
 (sR [oG 4 0 2,
 oL 5 1 4,
 oU 6 (.load false 1 (.t 1)),
 oU 7 (.bin .eql (.u 5) (.u 6)),
 oV 3 7]
 .ret)
def r85 : List LRes := [.slot 3]
theorem t85 : trOk Tryz.prog Tryz.f85 (vL [0, 1, 2, 3]) c85 r85 := ⟨by kernel_rfl, by kernel_rfl⟩
def c86 : LCode :=
 sR [oT 6 (.mov (.c (.fsl 1 0 [])))]
 (sR [oM 8 0,
 oM 9 1,
 oM 10 2,
 oM 11 0,
 oU 12 (.lenL (.u 11)),
 oU 13 (.slL 4 (.u 8) (some (.u 9)) (some (.u 10)) (some (.u 12)))]
 (.seq (sR [oM 14 1,
 oM 15 2,
 oT 16 (.bin .eql (.u 14) (.u 15))]
 (cT 16
 (sR [oM 17 0,
 oV 6 17]
 .ret)
 .skip))
 (sR [oM 18 0,
 oU 19 (.lenL (.u 18)),
 oV 7 19]
 (sD [dF 0 [0] (oM 20 0),
 dF 1 [1] (oM 21 1),
 dF 2 [20, 21] (oU 22 (.slL 4 (.u 20) none (some (.u 21)) none)),
 dF 3 [0] (oM 23 0),
 dF 4 [2] (oM 24 2),
 dF 5 [23, 24] (oU 25 (.slL 4 (.u 23) (some (.u 24)) none none)),
 dF 6 [22, 25] (oU 26 (.app 4 32 (.u 22) (.u 25))),
 dF 7 [26] (oV 0 26)]
 (sR [oM 27 0,
 oM 28 0,
 oU 29 (.lenL (.u 28)),
 oM 30 7,
 oU 31 (.slL 4 (.u 27) (some (.u 29)) (some (.u 30)) none),
 oN (.clear 4 [zI, zI, zI, zI] (.u 31))]
 (sR [oM 32 0,
 oV 6 32]
 .ret))))))
def r86 : List LRes := [.slot 6]
theorem t86 : trOk Tryz.prog Tryz.f86 (vL [0, 1, 2, 6, 7, 16]) c86 r86 := ⟨by kernel_rfl, by kernel_rfl⟩
def c87 : LCode :=
 sR [oI 5 0]
 (sR [oM 6 1,
 oK 7 2 2,
 oZ 8 6,
 oF 9 8 8,
 oR 2 9 7]
 (sR [oI 5 0]
 .ret))
def r87 : List LRes := [.slot 5]
theorem t87 : trOk Tryz.prog Tryz.f87 (vL [0, 1, 2, 5]) c87 r87 := ⟨by kernel_rfl, by kernel_rfl⟩
def c88 : LCode :=
 sR [oI 6 0]
 (sD [dF 0 [1] (oM 7 1),
 dF 1 [1] (oM 8 1),
 dT 2 [2] (oU 9 (.load false 1 (.t 2))),
 dT 3 [3] (oU 10 (.load false 1 (.t 3))),
 dF 4 [7] (oZ 11 7),
 dF 5 [11] (oF 12 11 11),
 ⟨6, [12, 9], false, [3], oR 1 12 9⟩,
 dF 7 [8] (oZ 13 8),
 dF 8 [13] (oF 14 10 13),
 dF 9 [14, 10] (oR 1 14 10)]
 (sR [oI 6 0]
 .ret))
def r88 : List LRes := [.slot 6]
theorem t88 : trOk Tryz.prog Tryz.f88 (vL [0, 1, 2, 3, 6]) c88 r88 := ⟨by kernel_rfl, by kernel_rfl⟩
def c89 : LCode :=
 sR [oI 5 0]
 (sR [oM 6 1,
 oU 7 (.load false 1 (.t 2)),
 oZ 8 6,
 oF 9 13 8,
 oR 1 9 7]
 (sR [oI 5 0]
 .ret))
def r89 : List LRes := [.slot 5]
theorem t89 : trOk Tryz.prog Tryz.f89 (vL [0, 1, 2, 5]) c89 r89 := ⟨by kernel_rfl, by kernel_rfl⟩
def c90 : LCode :=
 sR [oI 6 0]
 (sD [dF 0 [0] (oM 8 0),
 dF 1 [8] (oZ 9 8),
 dT 2 [9] (oJ 10 3 9),
 dT 3 [2] (oU 11 (.load false 1 (.t 2))),
 dF 4 [10, 11] (oC 12 58 [.u 10, .u 11]),
 dF 5 [12] (oV 7 12)]
 (.seq (sR [oM 13 7,
 oT 14 (.bin .lss (.u 13) (xI 0))]
 (cT 14
 (sR [oI 6 3]
 .ret)
 .skip))
 (.seq (sD [dT 0 [2] (oU 15 (.load false 1 (.t 2))),
 dF 1 [15] (oU 16 (.bin .eql (.u 15) (xI 1))),
 dF 2 [16] (oW 17 16),
 dF 3 [1, 17] (oO 18 17 (.mov (.t 1))),
 dF 4 [18, 17] (oO 19 17 (.nilc (.u 18))),
 dF 5 [19, 17] (oO 20 17 (.faddr 3 (.u 19))),
 dT 6 [20, 17] (oO 21 17 (.load false 1 (.u 20))),
 dF 7 [21, 17] (oO 22 17 (.bin .neq (.u 21) (xI 0))),
 dF 8 [22, 17] (oO 23 17 (.mov (.u 22))),
 dF 9 [1, 23] (oY 24 23 (.mov (.t 1))),
 dF 10 [24, 23] (oY 25 23 (.nilc (.u 24))),
 dF 11 [25, 23] (oY 26 23 (.faddr 3 (.u 25))),
 dT 12 [26, 23] (oY 27 23 (.load false 1 (.u 26))),
 dF 13 [0, 23] (oY 28 23 (.mov (.t 0))),
 dF 14 [28, 23] (oY 29 23 (.nilc (.u 28))),
 dF 15 [29, 23] (oY 30 23 (.faddr 2 (.u 29))),
 dT 16 [30, 23] (oY 31 23 (.load false 1 (.u 30))),
 dF 17 [7, 23] (oY 32 23 (.mov (.t 7))),
 dF 18 [31, 32, 23] (oY 33 23 (.iaS 14 (.u 31) (.u 32))),
 dF 19 [33, 23] (oY 34 23 (.faddr 2 (.u 33))),
 dT 20 [34, 23] (oY 35 23 (.load false 1 (.u 34))),
 dF 21 [27, 35, 23] (oY 36 23 (.bin .neq (.u 27) (.u 35))),
 dF 22 [23, 36, 17] (oO 37 17 (.pick (.u 23) (.u 36) (.c (.bool false)))),
 dF 23 [17, 37] (oQ 38 17 37)]
 (cT 38
 (sR [oI 6 1]
 .ret)
 .skip))
 (.seq (sR [oT 39 (.load false 1 (.t 3))]
 (cT 39
 (.region [oM 40 0,
 oU 41 (.load false 1 (.t 2)),
 oC 42 25 [.u 40, .u 41]])
 .skip))
 (sR [oI 6 0]
 .ret)))))
def r90 : List LRes := [.slot 6]
theorem t90 : trOk Tryz.prog Tryz.f90 (vL [0, 1, 2, 3, 6, 7, 14, 38, 39]) c90 r90 := ⟨by kernel_rfl, by kernel_rfl⟩
def c91 : LCode :=
 sR [oI 4 0]
 (.seq (sR [oM 6 0,
 oT 7 (.lenL (.u 6)),
 oI 8 0]
 (.block 0 (.loop (sR [oT 9 (.bin .lss (.t 8) (.t 7))]
 (.seq (cT 9
 .skip
 (.exit 0))
 (.seq (.block 1 (sR [oM 10 8,
 oV 5 10]
 (sR [oM 11 1,
 oM 12 0,
 oM 13 5,
 oA 14 14 12 13,
 oJ 15 14 14,
 oT 16 (.callV (.u 11) [.u 15])]
 (cT 16
 (sR [oM 17 5,
 oV 4 17]
 .ret)
 .skip))))
 (.region [oU 18 (.bin .add (.t 8) (xI 1)),
 oV 8 18])))))))
 (sR [oI 4 (-1)]
 .ret))
def r91 : List LRes := [.slot 4]
theorem t91 : trOk Tryz.prog Tryz.f91 (vL [0, 1, 4, 5, 7, 8, 9, 16]) c91 r91 := ⟨by kernel_rfl, by kernel_rfl⟩
def c92 : LCode :=
 sR [oB 2 0,
 oP 3 false]
 (sR [oG 4 0 2,
 oL 5 1 4,
 oU 6 (.load false 1 (.t 1)),
 oU 7 (.bin .eql (.u 5) (.u 6)),
 oV 3 7]
 .ret)
def r92 : List LRes := [.slot 3]
theorem t92 : trOk Tryz.prog Tryz.f92 (vL [0, 1, 2, 3]) c92 r92 := ⟨by kernel_rfl, by kernel_rfl⟩
def c93 : LCode :=
 sR [oT 4 (.mov (.c (.fsl 1 0 [])))]
 (.seq (sR [oM 8 0,
 oU 9 (.lenL (.u 8)),
 oT 10 (.bin .eql (.u 9) (xI 0))]
 (cT 10
 (sR [oT 4 (.mov (.c (.fsl 1 0 [])))]
 .ret)
 .skip))
 (sR [oM 11 0,
 oU 12 (.lenL (.u 11)),
 oU 13 (.make 4 32 [zI, zI, zI, zI] (xI 0) (.u 12)),
 oV 5 13]
 (.seq (sR [oT 14 (.mov (.t 0)),
 oT 15 (.lenL (.t 14)),
 oI 16 0]
 (.block 0 (.loop (sR [oT 17 (.bin .lss (.t 16) (.t 15))]
 (.seq (cT 17
 .skip
 (.exit 0))
 (.seq (.block 1 (sR [oU 18 (.iaS 4 (.t 14) (.t 16)),
 oJ 19 4 18,
 oT 7 (.zero [zI, zI, zI, zI]),
 oS 4 7 19]
 (.region [oM 20 5,
 oM 21 1,
 oK 22 4 7,
 oU 23 (.callV (.u 21) [.u 22]),
 oU 24 (.mkS 4 1 [zI, zI, zI, zI] [(0, 4, .u 23)]),
 oU 25 (.app 4 32 (.u 20) (.u 24)),
 oV 5 25])))
 (.region [oU 26 (.bin .add (.t 16) (xI 1)),
 oV 16 26])))))))
 (sR [oM 27 5,
 oV 4 27]
 .ret))))
def r93 : List LRes := [.slot 4]
theorem t93 : trOk Tryz.prog Tryz.f93 (vL [0, 1, 4, 5, 7, 10, 14, 15, 16, 17]) c93 r93 := ⟨by kernel_rfl, by kernel_rfl⟩
def c94 : LCode :=
 sR [oB 1 0,
 oT 2 (.zero [zI, zI, zI, zI])]
 (sR [oK 3 4 1,
 oS 4 2 3]
 .ret)
def r94 : List LRes := [.cell true 4 2]
theorem t94 : trOk Tryz.prog Tryz.f94 (vL [0, 1, 2]) c94 r94 := ⟨by kernel_rfl, by kernel_rfl⟩
def c96 : LCode :=
 sR [oT 2 (.zero [.str [], zI, zI, zI, zI])]
 (.seq (sR [oM 3 0,
 oU 4 (.bin .lss (.u 3) (xI 0)),
 oW 5 4,
 oO 6 5 (.mov (.t 0)),
 oO 7 5 (.call 115 []),
 oO 8 5 (.bin .geq (.u 6) (.u 7)),
 oQ 9 5 8]
 (cT 9
 (sR [oU 10 (.build [.str [], zI, zI, zI, zI] []),
 oS 5 2 10]
 .ret)
 .skip))
 (sR [oC 11 116 [],
 oM 12 0,
 oA 13 5 11 12,
 oJ 14 5 13,
 oS 5 2 14]
 .ret))
def r96 : List LRes := [.cell true 5 2]
theorem t96 : trOk Tryz.prog Tryz.f96 (vL [0, 2, 9]) c96 r96 := ⟨by kernel_rfl, by kernel_rfl⟩
def c110 : LCode :=
 sR [oT 2 (.mov (.c (.str [])))]
 (.seq (sR [oM 3 0,
 oC 4 22 [.u 3, xI 20],
 oT 5 (.bin .eql (.u 4) (xI 19))]
 (cT 5
 (sR [oM 6 0,
 oU 7 (.mkS 1 8 [.str []] [(0, 1, (.c (.str []))), (1, 1, (.c (.str [46]))), (2, 1, (.c (.str [46, 46]))), (3, 1, (.c (.str [97, 47, 98]))), (4, 1, (.c (.str [97, 98, 99, 100, 101, 102, 103, 104, 105, 106, 107, 108]))), (5, 1, (.c (.str [97, 98, 99, 100, 101, 102, 103, 104, 105, 106, 107, 108, 109]))), (6, 1, (.c (.str [97, 0]))), (7, 1, (.c (.str [126])))]),
 oC 8 69 [.u 6, .u 7],
 oV 2 8]
 .ret)
 .skip))
 (sR [oM 9 0,
 oU 10 (.mkS 1 6 [.str []] [(0, 1, (.c (.str [97]))), (1, 1, (.c (.str [98]))), (2, 1, (.c (.str [99]))), (3, 1, (.c (.str [100]))), (4, 1, (.c (.str [108]))), (5, 1, (.c (.str [109])))]),
 oC 11 69 [.u 9, .u 10],
 oV 2 11]
 .ret))
def r110 : List LRes := [.slot 2]
theorem t110 : trOk Tryz.prog Tryz.f110 (vL [0, 2, 5]) c110 r110 := ⟨by kernel_rfl, by kernel_rfl⟩
def c111 : LCode :=
 sR [oT 4 (.mov (.c (.fsl 1 0 [])))]
 (.seq (sR [oM 8 0,
 oU 9 (.lenL (.u 8)),
 oT 10 (.bin .eql (.u 9) (xI 0))]
 (cT 10
 (sR [oT 4 (.mov (.c (.fsl 1 0 [])))]
 .ret)
 .skip))
 (sR [oM 11 0,
 oU 12 (.lenL (.u 11)),
 oU 13 (.make 14 144 [zI, zI, zI, zI, zI, zI, zI, zI, zI, zI, .str [], .str [], .fsl 1 0 [], .bool false] (xI 0) (.u 12)),
 oV 5 13]
 (.seq (sR [oT 14 (.mov (.t 0)),
 oT 15 (.lenL (.t 14)),
 oI 16 0]
 (.block 0 (.loop (sR [oT 17 (.bin .lss (.t 16) (.t 15))]
 (.seq (cT 17
 .skip
 (.exit 0))
 (.seq (.block 1 (sR [oU 18 (.iaS 14 (.t 14) (.t 16)),
 oJ 19 14 18,
 oT 7 (.zero [zI, zI, zI, zI, zI, zI, zI, zI, zI, zI, .str [], .str [], .fsl 1 0 [], .bool false]),
 oS 14 7 19]
 (.region [oM 20 5,
 oM 21 1,
 oK 22 14 7,
 oU 23 (.callV (.u 21) [.u 22]),
 oU 24 (.mkS 14 1 [zI, zI, zI, zI, zI, zI, zI, zI, zI, zI, .str [], .str [], .fsl 1 0 [], .bool false] [(0, 14, .u 23)]),
 oU 25 (.app 14 144 (.u 20) (.u 24)),
 oV 5 25])))
 (.region [oU 26 (.bin .add (.t 16) (xI 1)),
 oV 16 26])))))))
 (sR [oM 27 5,
 oV 4 27]
 .ret))))
def r111 : List LRes := [.slot 4]
theorem t111 : trOk Tryz.prog Tryz.f111 (vL [0, 1, 4, 5, 7, 10, 14, 15, 16, 17]) c111 r111 := ⟨by kernel_rfl, by kernel_rfl⟩
def c115 : LCode :=
 sR [oI 0 0]
 (sR [oC 1 116 [],
 oU 2 (.lenL (.u 1)),
 oV 0 2]
 .ret)
def r115 : List LRes := [.slot 0]
theorem t115 : trOk Tryz.prog Tryz.f115 (vL [0]) c115 r115 := ⟨by kernel_rfl, by kernel_rfl⟩
def c116 : LCode :=
 sR [oT 0 (.mov (.c (.fsl 1 0 [])))]
 (sR [oU 1 (.build [.str [], zI, zI, zI, zI] [(0, 1, (.c (.str [102, 111, 114, 107]))), (1, 1, xI 0), (2, 1, xI 0), (3, 1, xI 0), (4, 1, xI 0)]),
 oU 2 (.build [.str [], zI, zI, zI, zI] [(0, 1, (.c (.str [101, 120, 101, 99, 118, 101]))), (1, 1, xI 0), (2, 1, xI 1), (3, 1, xI 0), (4, 1, xI 4)]),
 oU 3 (.build [.str [], zI, zI, zI, zI] [(0, 1, (.c (.str [101, 120, 105, 116]))), (1, 1, xI 1), (2, 1, xI 0), (3, 1, xI 0), (4, 1, xI 0)]),
 oU 4 (.build [.str [], zI, zI, zI, zI] [(0, 1, (.c (.str [115, 101, 116, 117, 105, 100]))), (1, 1, xI 1), (2, 1, xI 0), (3, 1, xI 0), (4, 1, xI 0)]),
 oU 5 (.build [.str [], zI, zI, zI, zI] [(0, 1, (.c (.str [115, 101, 116, 103, 105, 100]))), (1, 1, xI 1), (2, 1, xI 0), (3, 1, xI 0), (4, 1, xI 0)]),
 oU 6 (.build [.str [], zI, zI, zI, zI] [(0, 1, (.c (.str [108, 111, 103, 105, 110]))), (1, 1, xI 1), (2, 1, xI 0), (3, 1, xI 0), (4, 1, xI 0)]),
 oU 7 (.build [.str [], zI, zI, zI, zI] [(0, 1, (.c (.str [111, 112, 101, 110]))), (1, 1, xI 2), (2, 1, xI 1), (3, 1, xI 0), (4, 1, xI 0)]),
 oU 8 (.build [.str [], zI, zI, zI, zI] [(0, 1, (.c (.str [99, 108, 111, 115, 101]))), (1, 1, xI 1), (2, 1, xI 0), (3, 1, xI 0), (4, 1, xI 0)]),
 oU 9 (.build [.str [], zI, zI, zI, zI] [(0, 1, (.c (.str [108, 105, 110, 107]))), (1, 1, xI 0), (2, 1, xI 2), (3, 1, xI 0), (4, 1, xI 0)]),
 oU 10 (.build [.str [], zI, zI, zI, zI] [(0, 1, (.c (.str [115, 121, 109, 108, 105, 110, 107]))), (1, 1, xI 0), (2, 1, xI 1), (3, 1, xI 1), (4, 1, xI 1)]),
 oU 11 (.build [.str [], zI, zI, zI, zI] [(0, 1, (.c (.str [117, 110, 108, 105, 110, 107]))), (1, 1, xI 0), (2, 1, xI 1), (3, 1, xI 0), (4, 1, xI 0)]),
 oU 12 (.build [.str [], zI, zI, zI, zI] [(0, 1, (.c (.str [109, 107, 100, 105, 114]))), (1, 1, xI 1), (2, 1, xI 1), (3, 1, xI 0), (4, 1, xI 0)]),
 oU 13 (.build [.str [], zI, zI, zI, zI] [(0, 1, (.c (.str [114, 109, 100, 105, 114]))), (1, 1, xI 0), (2, 1, xI 1), (3, 1, xI 0), (4, 1, xI 0)]),
 oU 14 (.build [.str [], zI, zI, zI, zI] [(0, 1, (.c (.str [114, 101, 110, 97, 109, 101]))), (1, 1, xI 0), (2, 1, xI 2), (3, 1, xI 0), (4, 1, xI 0)]),
 oU 15 (.build [.str [], zI, zI, zI, zI] [(0, 1, (.c (.str [99, 104, 109, 111, 100]))), (1, 1, xI 1), (2, 1, xI 1), (3, 1, xI 0), (4, 1, xI 0)]),
 oU 16 (.build [.str [], zI, zI, zI, zI] [(0, 1, (.c (.str [99, 104, 111, 119, 110]))), (1, 1, xI 2), (2, 1, xI 1), (3, 1, xI 0), (4, 1, xI 0)]),
 oU 17 (.build [.str [], zI, zI, zI, zI] [(0, 1, (.c (.str [99, 104, 100, 105, 114]))), (1, 1, xI 0), (2, 1, xI 1), (3, 1, xI 0), (4, 1, xI 0)]),
 oU 18 (.build [.str [], zI, zI, zI, zI] [(0, 1, (.c (.str [109, 111, 117, 110, 116]))), (1, 1, xI 1), (2, 1, xI 1), (3, 1, xI 0), (4, 1, xI 0)]),
 oU 19 (.build [.str [], zI, zI, zI, zI] [(0, 1, (.c (.str [117, 109, 111, 117, 110, 116]))), (1, 1, xI 1), (2, 1, xI 0), (3, 1, xI 0), (4, 1, xI 0)]),
 oU 20 (.build [.str [], zI, zI, zI, zI] [(0, 1, (.c (.str [99, 111, 110, 110, 101, 99, 116]))), (1, 1, xI 1), (2, 1, xI 0), (3, 1, xI 1), (4, 1, xI 1)]),
 oU 21 (.build [.str [], zI, zI, zI, zI] [(0, 1, (.c (.str [107, 105, 108, 108]))), (1, 1, xI 2), (2, 1, xI 0), (3, 1, xI 0), (4, 1, xI 0)]),
 oU 22 (.build [.str [], zI, zI, zI, zI] [(0, 1, (.c (.str [116, 114, 117, 110, 99, 97, 116, 101]))), (1, 1, xI 1), (2, 1, xI 1), (3, 1, xI 0), (4, 1, xI 0)]),
 oU 23 (.mkS 5 22 [.str [], zI, zI, zI, zI] [(0, 5, .u 1), (5, 5, .u 2), (10, 5, .u 3), (15, 5, .u 4), (20, 5, .u 5), (25, 5, .u 6), (30, 5, .u 7), (35, 5, .u 8), (40, 5, .u 9), (45, 5, .u 10), (50, 5, .u 11), (55, 5, .u 12), (60, 5, .u 13), (65, 5, .u 14), (70, 5, .u 15), (75, 5, .u 16), (80, 5, .u 17), (85, 5, .u 18), (90, 5, .u 19), (95, 5, .u 20), (100, 5, .u 21), (105, 5, .u 22)]),
 oV 0 23]
 .ret)
def r116 : List LRes := [.slot 0]
theorem t116 : trOk Tryz.prog Tryz.f116 (vL [0]) c116 r116 := ⟨by kernel_rfl, by kernel_rfl⟩
end Go.Proofs.YtkdblnejpmbnfaaGreat
namespace Go.Proofs.YtkdblnejpmbnfaaGreat
open Go Go.Lx
set_option linter.unusedSimpArgs false
set_option linter.unusedVariables false
def gl : Glob := fun _ => none
end Go.Proofs.YtkdblnejpmbnfaaGreat
namespace Go.Proofs.YtkdblnejpmbnfaaGreat
open Go.ChangeShapes Go.WideShapes Go.ChangeAt Go.RowKit Go.Lx
set_option linter.unusedSimpArgs false
set_option linter.unusedVariables false
theorem own : ownKnob Tryz.prog.godebug = none := by kernel_rfl
theorem laidOut : laidOutB Tryz.prog = true := by kernel_rfl
theorem glob {M : Imm} : ∀ g cs, gl g = some cs → RCs M g 0 cs := fun _ _ h => by cases h
noncomputable def laidWorld (os : Os) : World := World.holding Tryz.prog os ⟨#[], #[], []⟩
def tyBool : TypeId := 4
theorem undBool : Tryz.prog.underlying tyBool = some .bool := Tryz.underlying4
end Go.Proofs.YtkdblnejpmbnfaaGreat
namespace Go.Proofs.YtkdblnejpmbnfaaGreat
open Go Go.Lx
set_option maxRecDepth 100000
def c5 : LCode :=
 sR [oP 4 false]
 (sR [oM 16 0,
 oC 17 6 [.u 16],
 oV 5 17]
 (sR [oM 18 5,
 oC 19 7 [.u 18],
 oU 20 (.fld true 3 2 (.u 19)),
 oT 6 (.zero [zI, zI, .fsl 1 0 []]),
 oS 3 6 20]
 (.seq (sR [oI 7 0]
 (.block 0 (.loop (.seq (sR [oM 21 7,
 oT 22 (.bin .lss (.u 21) (xI 14))]
 (cT 22
 .skip
 (.exit 0)))
 (.seq (.block 1 (sR [oM 26 5,
 oK 27 3 6,
 oC 28 16 [.u 26, .u 27],
 oW 25 28,
 oX 29 25 0,
 oX 30 25 1,
 oT 8 (.zero [zI, zI, .fsl 1 0 []]),
 oS 3 8 29,
 oV 9 30]
 (.seq (sR [oM 31 9,
 oT 32 (.un .not (.u 31))]
 (cT 32
 (sR [oP 4 false]
 .ret)
 .skip))
 (.region [oK 33 3 8,
 oS 3 6 33]))))
 (.region [oM 23 7,
 oU 24 (.bin .add (.u 23) (xI 1)),
 oV 7 24]))))))
 (sR [oM 34 1,
 oM 35 5,
 oK 36 3 6,
 oC 37 8 [.u 35, .u 36],
 oU 38 (.mkS 1 3 [zI] [(0, 1, .u 34), (1, 1, xI 1), (2, 1, .u 37)]),
 oV 10 38]
 (.seq (sR [oI 11 0]
 (.block 2 (.loop (.seq (sR [oM 39 11,
 oM 40 10,
 oU 41 (.lenL (.u 40)),
 oT 42 (.bin .lss (.u 39) (.u 41))]
 (cT 42
 .skip
 (.exit 2)))
 (.seq (.block 3 (sD [dT 0 [6] (oK 46 3 6),
 dF 1 [10] (oM 47 10),
 dF 2 [11] (oM 48 11),
 dF 3 [47, 48] (oA 49 1 47 48),
 dT 4 [49] (oL 50 1 49),
 dF 5 [46, 50] (oC 51 17 [.u 46, .u 50]),
 dF 6 [51] (oW 45 51),
 dF 7 [45] (oX 52 45 0),
 dF 8 [45] (oX 53 45 1),
 dF 9 [] (oT 12 (.zero [zI, zI, zI, zI, zI, zI, zI, zI, zI, zI, .str [], .str [], .fsl 1 0 [], .bool false])),
 dF 10 [12, 52] (oS 14 12 52),
 dF 11 [53] (oV 13 53)]
 (sD [dT 0 [6] (oK 55 3 6),
 dF 1 [10] (oM 56 10),
 dF 2 [11] (oM 57 11),
 dF 3 [56, 57] (oA 58 1 56 57),
 dT 4 [58] (oL 59 1 58),
 dF 5 [55, 59] (oC 60 11 [.u 55, .u 59]),
 dF 6 [60] (oW 54 60),
 dF 7 [54] (oX 61 54 0),
 dF 8 [54] (oX 62 54 1),
 dF 9 [] (oT 14 (.zero [zI, zI, zI, zI, zI, zI, zI, zI, zI, zI, .str [], .str [], .fsl 1 0 [], .bool false])),
 dF 10 [14, 61] (oS 14 14 61),
 dF 11 [62] (oV 15 62)]
 (sR [oM 63 13,
 oM 64 15,
 oU 65 (.eqB true (.u 63) (.u 64)),
 oW 66 65,
 oO 67 66 (.load true 14 (.t 12)),
 oO 68 66 (.load true 14 (.t 14)),
 oO 69 66 (.call 12 [.u 67, .u 68]),
 oO 70 66 (.un .not (.u 69)),
 oQ 71 66 70]
 (cT 71
 (sR [oP 4 false]
 .ret)
 .skip)))))
 (.region [oM 43 11,
 oU 44 (.bin .add (.u 43) (xI 1)),
 oV 11 44]))))))
 (sR [oC 72 10 [],
 oV 4 72]
 .ret))))))
def r5 : List LRes := [.slot 4]
theorem t5 : trOk Tryz.prog Tryz.f5 (vL [0, 1, 4, 5, 6, 7, 8, 9, 10, 11, 12, 13, 14, 15, 22, 32, 42, 71]) c5 r5 := ⟨by kernel_rfl, by kernel_rfl⟩
end Go.Proofs.YtkdblnejpmbnfaaGreat
namespace Go.Proofs.YtkdblnejpmbnfaaGreat
open Go Go.Lx
set_option linter.unusedSimpArgs false
set_option linter.unusedVariables false
structure De where
  fd : Int
  d : Int
  i : Int
  fl : Int
def DeC (x : De) : List LV := [.int .i64 x.fd, .int .i64 x.d, .int .i64 x.i, .int .i64 x.fl]
theorem DeC_eq (x : De) : DeC x = [.int .i64 x.fd, .int .i64 x.d, .int .i64 x.i, .int .i64 x.fl] := Eq.trans rfl rfl
def de0 : De := ⟨0, 0, 0, 0⟩
def DeS (l : List De) : LV := .sl 4 l.length (l.flatMap DeC)
theorem DeS_eq (l : List De) : DeS l = .sl 4 l.length (l.flatMap DeC) := Eq.trans rfl rfl
theorem len_de (l : List De) : (l.flatMap DeC).length = l.length * 4 := length_rows (f := DeC) (w := 4) (fun _ => rfl) l
structure Ps where
  pid : Int
  ppid : Int
  uid : Int
  euid : Int
  gid : Int
  egid : Int
  auid : Int
  ses : Int
  cd : Int
  ci : Int
  comm : List UInt8
  exe : List UInt8
  op : List De
  au : Bool
def PsO (p : Ps) (o : LV) : List LV := [.int .i64 p.pid, .int .i64 p.ppid, .int .i64 p.uid, .int .i64 p.euid, .int .i64 p.gid, .int .i64 p.egid, .int .i64 p.auid, .int .i64 p.ses, .int .i64 p.cd, .int .i64 p.ci, .str p.comm, .str p.exe, o, .bool p.au]
theorem PsO_eq (p : Ps) (o : LV) : PsO p o = [.int .i64 p.pid, .int .i64 p.ppid, .int .i64 p.uid, .int .i64 p.euid, .int .i64 p.gid, .int .i64 p.egid, .int .i64 p.auid, .int .i64 p.ses, .int .i64 p.cd, .int .i64 p.ci, .str p.comm, .str p.exe, o, .bool p.au] := Eq.trans rfl rfl
def PsC (p : Ps) : List LV := PsO p (DeS p.op)
theorem PsC_eq (p : Ps) : PsC p = [.int .i64 p.pid, .int .i64 p.ppid, .int .i64 p.uid, .int .i64 p.euid, .int .i64 p.gid, .int .i64 p.egid, .int .i64 p.auid, .int .i64 p.ses, .int .i64 p.cd, .int .i64 p.ci, .str p.comm, .str p.exe, DeS p.op, .bool p.au] := Eq.trans rfl rfl
def ps0 : Ps := ⟨0, 0, 0, 0, 0, 0, 0, 0, 0, 0, [], [], [], false⟩
theorem len_ps (l : List Ps) : (l.flatMap PsC).length = l.length * 14 := length_rows (f := PsC) (w := 14) (fun _ => rfl) l
structure Tb where
  nx : Int
  ns : Int
  ps : List Ps
def TbL (t : Tb) : LV := .agg [.int .i64 t.nx, .int .i64 t.ns, .sl 14 t.ps.length (t.ps.flatMap PsC)]
theorem TbL_eq (t : Tb) : TbL t = .agg [.int .i64 t.nx, .int .i64 t.ns, .sl 14 t.ps.length (t.ps.flatMap PsC)] := Eq.trans rfl rfl
def tb0 : Tb := ⟨0, 0, []⟩
theorem zPs : zeros ([.int .i64 0, .int .i64 0, .int .i64 0, .int .i64 0, .int .i64 0, .int .i64 0, .int .i64 0, .int .i64 0, .int .i64 0, .int .i64 0, .str [], .str [], .fsl 1 0 [], .bool false] : List LV) 14 = [.int .i64 0, .int .i64 0, .int .i64 0, .int .i64 0, .int .i64 0, .int .i64 0, .int .i64 0, .int .i64 0, .int .i64 0, .int .i64 0, .str [], .str [], .fsl 1 0 [], .bool false] := Eq.trans rfl rfl
theorem zDe : zeros ([.int .i64 0, .int .i64 0, .int .i64 0, .int .i64 0] : List LV) 4 = [.int .i64 0, .int .i64 0, .int .i64 0, .int .i64 0] := Eq.trans rfl rfl
def okT (t : Tb) : Prop := t.ps.length ≤ 1000000 ∧ ∀ p ∈ t.ps, p.op.length ≤ 1000000
theorem acts_end {x r : LV} {H H1 : Heap} (h : leV x r) (hs : H1.Sublist H) : ∃ r' H', leVH gl x H r' H' ∧ r' = r ∧ H' = H1 := ⟨r, H1, leVH.of h ⟨_, hs, List.Perm.refl _⟩, rfl, rfl⟩
def firstI (n : Nat) (p : Nat → Bool) : Int := match (List.range n).find? p with
  | some i => i
  | none => -1
theorem firstI_is {n : Nat} {p : Nat → Bool} {i : Nat} (h : i < n) (hp : p i = true) (hn : ∀ j, j < i → p j = false) : firstI n p = i := by
  have : (List.range n).find? p = some i := by
    rw [List.find?_range_eq_some]
    exact ⟨hp, by simpa using h, fun j hj => by simp [hn j hj]⟩
  simp [firstI, this]
theorem firstI_none {n : Nat} {p : Nat → Bool} (hn : ∀ j, j < n → p j = false) : firstI n p = -1 := by
  have : (List.range n).find? p = none := by
    rw [List.find?_range_eq_none]
    exact fun j hj => by simp [hn j hj]
  simp [firstI, this]
theorem firstI_cases (n : Nat) (p : Nat → Bool) : (firstI n p = -1 ∧ ∀ j, j < n → p j = false) ∨ ∃ i, i < n ∧ firstI n p = i ∧ p i = true ∧ ∀ j, j < i → p j = false := by
  cases hf : (List.range n).find? p with
  | none =>
    have hn := (List.find?_range_eq_none).1 hf
    exact .inl ⟨by simp [firstI, hf], fun j hj => by simpa using hn j hj⟩
  | some i =>
    obtain ⟨h1, h2, h3⟩ := (List.find?_range_eq_some).1 hf
    exact .inr ⟨i, by simpa using h2, by simp [firstI, hf], h1, fun j hj => by simpa using h3 j hj⟩
end Go.Proofs.YtkdblnejpmbnfaaGreat
