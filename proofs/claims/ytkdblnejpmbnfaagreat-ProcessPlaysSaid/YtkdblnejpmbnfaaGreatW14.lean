/- The functions' bodies as the engine reads them; written by program out of the translation, checked by the kernel. -/
import Derived.Test.YtkdblnejpmbnfaaGreatProg
import Derived.Test.YtkdblnejpmbnfaaGreatW06
import Derived.KernelRfl
namespace Go.Proofs.YtkdblnejpmbnfaaGreat
open Go Go.Lx
set_option maxRecDepth 100000
def c7 : LCode :=
 sR [oT 2 (.zero [.fsl 1 0 [], .fsl 1 0 [], zI, zI, .fsl 1 0 []])]
 (sR [oM 7 0,
 oC 8 19 [.u 7, xI 1, xI 3],
 oC 9 18 [.u 8],
 oW 6 9,
 oX 10 6 0,
 oX 11 6 1,
 oT 3 (.zero [.fsl 1 0 [], .fsl 1 0 [], zI, zI, .fsl 1 0 []]),
 oS 5 3 10,
 oW 4 11]
 (.seq (sR [oM 12 0,
 oC 13 19 [.u 12, xI 3, xI 14],
 oV 5 13]
 (.block 0 (.loop (.seq (sR [oM 14 5,
 oT 15 (.bin .gtr (.u 14) (xI 0))]
 (cT 15
 .skip
 (.exit 0)))
 (.seq (.block 1 (.regionD [dT 0 [3] (oK 19 5 3),
 dF 1 [0] (oM 20 0),
 dF 2 [3] (oG 21 2 3),
 dT 3 [21] (oJ 22 3 21),
 dF 5 [0] (oM 24 0),
 ⟨4, [20, 22], false, [0], oC 23 8 [.u 20, .u 22]⟩,
 ⟨6, [24], false, [0], oC 25 21 [.u 24]⟩,
 dF 7 [19, 23, 25] (oC 26 20 [.u 19, .u 23, .u 25]),
 dF 8 [26] (oW 18 26),
 dF 9 [18] (oX 27 18 0),
 dF 10 [18] (oX 28 18 1),
 dF 11 [3, 27] (oS 5 3 27)]))
 (.region [oM 16 5,
 oU 17 (.bin .sub (.u 16) (xI 1)),
 oV 5 17]))))))
 (sR [oK 29 5 3,
 oS 5 2 29]
 .ret)))
def r7 : List LRes := [.cell true 5 2]
theorem t7 : trOk Tryz.prog Tryz.f7 (vL [0, 2, 3, 5, 15]) c7 r7 := ⟨by kernel_rfl, by kernel_rfl⟩
def c18 : LCode :=
 sR [oT 2 (.zero [.fsl 1 0 [], .fsl 1 0 [], zI, zI, .fsl 1 0 []]),
 oI 3 0]
 (sR [oM 7 0,
 oC 8 60 [.u 7],
 oW 6 8,
 oX 9 6 0,
 oX 10 6 1,
 oT 4 (.zero [.fsl 1 0 []]),
 oS 1 4 9,
 oV 5 10]
 (.seq (sR [oM 11 5,
 oT 12 (.bin .neq (.u 11) (xI 0))]
 (cT 12
 (sR [oU 13 (.build [.fsl 1 0 [], .fsl 1 0 [], zI, zI, .fsl 1 0 []] []),
 oM 14 5,
 oS 5 2 13,
 oV 3 14]
 .ret)
 .skip))
 (sD [dT 0 [4] (oK 15 1 4),
 dF 1 [15] (oU 16 (.build [.fsl 1 0 [], .fsl 1 0 []] [(0, 1, .u 15)])),
 dF 2 [] (oU 17 (.build [zI, zI] [(1, 1, xI 1)])),
 ⟨3, [17], false, [0], oC 18 61 [.u 17]⟩,
 dF 4 [16, 18] (oU 19 (.build [.fsl 1 0 [], .fsl 1 0 [], zI, zI, .fsl 1 0 []] [(0, 2, .u 16), (2, 3, .u 18)])),
 dF 5 [2, 19] (oS 5 2 19),
 dF 6 [] (oI 3 0)]
 .ret)))
def r18 : List LRes := [.cell true 5 2, .slot 3]
theorem t18 : trOk Tryz.prog Tryz.f18 (vL [0, 2, 3, 4, 5, 12]) c18 r18 := ⟨by kernel_rfl, by kernel_rfl⟩
def c20 : LCode :=
 sR [oB 3 0,
 oB 5 2,
 oT 6 (.zero [.fsl 1 0 [], .fsl 1 0 [], zI, zI, .fsl 1 0 []]),
 oT 7 (.zero [zI, zI, zI, .fsl 1 0 [], .fsl 1 0 []])]
 (sR [oG 14 2 3,
 oJ 15 3 14,
 oM 16 1,
 oC 17 11 [.u 15, .u 16],
 oW 13 17,
 oX 18 13 0,
 oX 19 13 1,
 oT 8 (.zero [zI, zI, zI, zI, zI, zI, zI, zI, zI, zI, .str [], .str [], .fsl 1 0 [], .bool false]),
 oS 14 8 18,
 oV 9 19]
 (.seq (sR [oM 20 9,
 oT 21 (.un .not (.u 20))]
 (cT 21
 (sR [oK 22 5 3,
 oC 23 62 [.u 22],
 oU 24 (.build [zI, zI, zI, .fsl 1 0 [], .fsl 1 0 []] [(0, 1, xI (-4))]),
 oS 5 6 23,
 oS 5 7 24]
 .ret)
 .skip))
 (.seq (sR [oK 25 7 5,
 oC 26 63 [.u 25],
 oT 27 (.bin .neq (.u 26) (xI 0))]
 (cT 27
 (sR [oK 28 5 3,
 oC 29 62 [.u 28],
 oU 30 (.build [zI, zI, zI, .fsl 1 0 [], .fsl 1 0 []] [(0, 1, xI (-22))]),
 oS 5 6 29,
 oS 5 7 30]
 .ret)
 .skip))
 (sD [dT 0 [3] (oK 31 5 3),
 dT 2 [8] (oK 33 14 8),
 dT 3 [5] (oK 34 7 5),
 ⟨1, [31], false, [3, 2], oC 32 62 [.u 31]⟩,
 dF 4 [32, 33, 34] (oU 35 (.build [.fsl 1 0 [], .fsl 1 0 [], zI, zI, .fsl 1 0 [], zI, zI, zI, zI, zI, zI, zI, zI, zI, zI, .str [], .str [], .fsl 1 0 [], .bool false, zI, zI, zI, zI, zI, .fsl 1 0 [], .fsl 1 0 [], .fsl 1 0 [], zI, zI, zI, .fsl 1 0 [], .fsl 1 0 []] [(0, 5, .u 32), (5, 14, .u 33), (19, 7, .u 34)])),
 dF 5 [35] (oU 36 (.box (.u 35))),
 dF 6 [36] (oV 10 36)]
 (sR [oM 37 10,
 oM 38 10,
 oC 39 65 [.u 38],
 oC 40 64 [.u 37, .u 39],
 oV 11 40]
 (sR [oM 41 10,
 oZ 42 41,
 oF 43 27 42,
 oF 44 3 43,
 oL 45 1 44,
 oU 46 (.app 13 128 (.c (.fsl 1 0 [])) (.u 45)),
 oV 12 46]
 (.seq (sR [oM 47 11,
 oT 48 (.bin .eql (.u 47) (xI 0))]
 (cT 48
 (.region [oM 49 10,
 oC 50 66 [.u 49],
 oV 11 50])
 .skip))
 (.seq (sR [oM 51 11,
 oT 52 (.bin .neq (.u 51) (xI 0))]
 (cT 52
 (sR [oK 53 5 3,
 oC 54 62 [.u 53],
 oM 55 11,
 oU 56 (.un .neg (.u 55)),
 oM 57 12,
 oU 58 (.build [zI, zI, zI, .fsl 1 0 [], .fsl 1 0 []] [(0, 1, .u 56), (3, 1, .u 57)]),
 oS 5 6 54,
 oS 5 7 58]
 .ret)
 .skip))
 (sD [dF 0 [10] (oM 59 10),
 dF 1 [59] (oZ 60 59),
 dF 2 [60] (oF 61 0 60),
 dT 3 [61] (oJ 62 5 61),
 dF 4 [10] (oM 63 10),
 dF 5 [63] (oZ 64 63),
 dF 6 [64] (oF 65 27 64),
 dT 7 [65] (oJ 66 5 65),
 ⟨8, [6, 62], false, [7], oS 5 6 62⟩,
 dF 9 [7, 66] (oS 5 7 66)]
 .ret)))))))))
def r20 : List LRes := [.cell true 5 6, .cell true 5 7]
theorem t20 : trOk Tryz.prog Tryz.f20 (vL [0, 1, 2, 3, 5, 6, 7, 8, 9, 10, 11, 12, 21, 27, 48, 52]) c20 r20 := ⟨by kernel_rfl, by kernel_rfl⟩
def c60 : LCode :=
 sR [oT 2 (.zero [.fsl 1 0 []]),
 oI 3 0]
 (.seq (sR [oM 6 0,
 oU 7 (.bin .lss (.u 6) (xI 1)),
 oW 8 7,
 oO 9 8 (.mov (.t 0)),
 oO 10 8 (.bin .gtr (.u 9) (xI 3)),
 oQ 11 8 10]
 (cT 11
 (sR [oU 12 (.build [.fsl 1 0 []] []),
 oS 1 2 12,
 oI 3 50]
 .ret)
 .skip))
 (sR [oT 4 (.zero [.fsl 1 0 []])]
 (.seq (sR [oI 5 0]
 (.block 0 (.loop (.seq (sR [oM 13 5,
 oM 14 0,
 oT 15 (.bin .lss (.u 13) (.u 14))]
 (cT 15
 .skip
 (.exit 0)))
 (.seq (.block 1 (.region [oG 18 0 4,
 oL 19 1 18,
 oU 20 (.build [zI, zI, zI, zI, zI, zI, .str [], .fsl 1 0 []] [(0, 1, xI 1), (1, 1, xI 2), (2, 1, xI 493), (5, 1, xI 1)]),
 oU 21 (.mkS 8 1 [zI, zI, zI, zI, zI, zI, .str [], .fsl 1 0 []] [(0, 8, .u 20)]),
 oU 22 (.build [zI, .fsl 1 0 []] [(0, 1, xI 2), (1, 1, .u 21)]),
 oU 23 (.mkS 2 1 [zI, .fsl 1 0 []] [(0, 2, .u 22)]),
 oU 24 (.app 2 32 (.u 19) (.u 23)),
 oG 25 0 4,
 oR 1 25 24]))
 (.region [oM 16 5,
 oU 17 (.bin .add (.u 16) (xI 1)),
 oV 5 17]))))))
 (sR [oK 26 1 4,
 oS 1 2 26,
 oI 3 0]
 .ret))))
def r60 : List LRes := [.cell true 1 2, .slot 3]
theorem t60 : trOk Tryz.prog Tryz.f60 (vL [0, 2, 3, 4, 5, 11, 15]) c60 r60 := ⟨by kernel_rfl, by kernel_rfl⟩
def c62 : LCode :=
 sR [oB 1 0,
 oT 2 (.zero [.fsl 1 0 [], .fsl 1 0 [], zI, zI, .fsl 1 0 []])]
 (sD [dF 0 [1] (oG 3 0 1),
 dT 1 [3] (oJ 4 2 3),
 dF 3 [1] (oG 6 2 1),
 dT 4 [6] (oJ 7 3 6),
 ⟨2, [4], false, [4], oC 5 95 [.u 4]⟩,
 dF 5 [7] (oC 8 30 [.u 7]),
 dF 6 [5, 8] (oU 9 (.build [.fsl 1 0 [], .fsl 1 0 [], zI, zI, .fsl 1 0 []] [(0, 2, .u 5), (2, 3, .u 8)])),
 dF 7 [2, 9] (oS 5 2 9)]
 .ret)
def r62 : List LRes := [.cell true 5 2]
theorem t62 : trOk Tryz.prog Tryz.f62 (vL [0, 1, 2]) c62 r62 := ⟨by kernel_rfl, by kernel_rfl⟩
def c63 : LCode :=
 sR [oB 1 0,
 oI 2 0]
 (sR [oG 7 0 1,
 oL 8 1 7,
 oC 9 96 [.u 8],
 oT 3 (.zero [.str [], zI, zI, zI, zI]),
 oS 5 3 9]
 (.seq (sR [oG 10 0 3,
 oL 11 1 10,
 oT 12 (.bin .eql (.u 11) (.c (.str [])))]
 (cT 12
 (sR [oI 2 100]
 .ret)
 .skip))
 (.seq (sR [oG 13 1 3,
 oL 14 1 13,
 oV 4 14]
 (.block 0 (.loop (.seq (sR [oM 15 4,
 oT 16 (.bin .lss (.u 15) (xI 4))]
 (cT 16
 .skip
 (.exit 0)))
 (.seq (.block 1 (sR [oM 19 4,
 oG 20 1 1,
 oU 21 (.iaA 4 1 (.u 20) (.u 19)),
 oL 22 1 21,
 oT 23 (.bin .neq (.u 22) (xI 0))]
 (cT 23
 (sR [oI 2 101]
 .ret)
 .skip)))
 (.region [oM 17 4,
 oU 18 (.bin .add (.u 17) (xI 1)),
 oV 4 18]))))))
 (.seq (sR [oG 24 5 1,
 oL 25 1 24,
 oU 26 (.lenL (.u 25)),
 oG 27 2 3,
 oL 28 1 27,
 oU 29 (.bin .neq (.u 26) (.u 28)),
 oW 30 29,
 oO 31 30 (.faddr 6 (.t 1)),
 oO 32 30 (.load false 1 (.u 31)),
 oO 33 30 (.lenL (.u 32)),
 oO 34 30 (.faddr 3 (.t 3)),
 oO 35 30 (.load false 1 (.u 34)),
 oO 36 30 (.bin .lss (.u 33) (.u 35)),
 oH 37 30 36,
 oW 38 37,
 oO 39 38 (.faddr 6 (.t 1)),
 oO 40 38 (.load false 1 (.u 39)),
 oO 41 38 (.lenL (.u 40)),
 oO 42 38 (.faddr 4 (.t 3)),
 oO 43 38 (.load false 1 (.u 42)),
 oO 44 38 (.bin .gtr (.u 41) (.u 43)),
 oQ 45 38 44]
 (cT 45
 (sR [oI 2 101]
 .ret)
 .skip))
 (.seq (sR [oI 5 0]
 (.block 2 (.loop (.seq (sR [oM 46 5,
 oG 47 5 1,
 oL 48 1 47,
 oU 49 (.lenL (.u 48)),
 oT 50 (.bin .lss (.u 46) (.u 49))]
 (cT 50
 .skip
 (.exit 2)))
 (.seq (.block 3 (sR [oG 53 5 1,
 oL 54 1 53,
 oM 55 5,
 oA 56 1 54 55,
 oL 57 1 56,
 oU 58 (.len (.u 57)),
 oT 59 (.bin .gtr (.u 58) (xI 128))]
 (cT 59
 (sR [oI 2 102]
 .ret)
 .skip)))
 (.region [oM 51 5,
 oU 52 (.bin .add (.u 51) (xI 1)),
 oV 5 52]))))))
 (.seq (sR [oI 6 0]
 (.block 4 (.loop (.seq (sR [oM 60 6,
 oG 61 6 1,
 oL 62 1 61,
 oU 63 (.lenL (.u 62)),
 oT 64 (.bin .lss (.u 60) (.u 63))]
 (cT 64
 .skip
 (.exit 4)))
 (.seq (.block 5 (sR [oG 67 6 1,
 oL 68 1 67,
 oM 69 6,
 oA 70 1 68 69,
 oL 71 1 70,
 oU 72 (.len (.u 71)),
 oT 73 (.bin .gtr (.u 72) (xI 64))]
 (cT 73
 (sR [oI 2 102]
 .ret)
 .skip)))
 (.region [oM 65 6,
 oU 66 (.bin .add (.u 65) (xI 1)),
 oV 6 66]))))))
 (sR [oI 2 0]
 .ret)))))))
def r63 : List LRes := [.slot 2]
theorem t63 : trOk Tryz.prog Tryz.f63 (vL [0, 1, 2, 3, 4, 5, 6, 12, 16, 23, 45, 50, 59, 64, 73]) c63 r63 := ⟨by kernel_rfl, by kernel_rfl⟩
def c64 : LCode :=
 sR [oI 4 0]
 (sR [oM 8 0,
 oZ 9 8,
 oF 10 19 9,
 oJ 11 7 10,
 oC 12 97 [.u 11],
 oV 5 12]
 (.seq (sR [oI 6 0]
 (.block 0 (.loop (.seq (sR [oM 13 6,
 oM 14 0,
 oZ 15 14,
 oF 16 19 15,
 oF 17 5 16,
 oL 18 1 17,
 oU 19 (.lenL (.u 18)),
 oT 20 (.bin .lss (.u 13) (.u 19))]
 (cT 20
 .skip
 (.exit 0)))
 (.seq (.block 1 (sD [dF 0 [0] (oM 23 0),
 dF 1 [0] (oM 24 0),
 dF 2 [24] (oZ 25 24),
 dF 3 [25] (oF 26 27 25),
 dF 4 [26] (oF 27 3 26),
 dT 5 [27] (oL 28 1 27),
 dF 6 [0] (oM 29 0),
 dF 7 [29] (oZ 30 29),
 dF 8 [30] (oF 31 19 30),
 dF 9 [31] (oF 32 5 31),
 dT 10 [32] (oL 33 1 32),
 dF 11 [6] (oM 34 6),
 dF 12 [33, 34] (oA 35 1 33 34),
 dT 13 [35] (oL 36 1 35),
 dF 14 [5] (oM 37 5),
 dF 15 [6] (oM 38 6),
 dF 16 [37, 38] (oA 39 1 37 38),
 dT 17 [39] (oL 40 1 39),
 dF 18 [36, 40] (oU 41 (.build [.str [], .str [], zI, zI, .str [], zI, zI, zI, zI, zI, zI, zI, zI] [(0, 1, .u 36), (7, 1, xI 1), (12, 1, .u 40)])),
 dF 19 [41] (oU 42 (.mkS 13 1 [.str [], .str [], zI, zI, .str [], zI, zI, zI, zI, zI, zI, zI, zI] [(0, 13, .u 41)])),
 dF 20 [28, 42] (oU 43 (.app 13 128 (.u 28) (.u 42))),
 dF 21 [23] (oZ 44 23),
 dF 22 [44] (oF 45 27 44),
 dF 23 [45] (oF 46 3 45),
 dF 24 [46, 43] (oR 1 46 43)]
 (sR [oT 7 (.zero [zI, zI, .str [], zI, zI, .bool false, .bool false, .str []])]
 (.seq (sR [oM 47 1,
 oT 48 (.bin .eql (.u 47) (xI 0))]
 (cT 48
 (sD [dF 0 [0] (oM 50 0),
 dF 1 [50] (oZ 51 50),
 dF 2 [51] (oF 52 0 51),
 dF 3 [52] (oF 53 0 52),
 dT 4 [53] (oJ 54 2 53),
 dF 5 [0] (oM 55 0),
 dF 6 [55] (oZ 56 55),
 dF 7 [56] (oF 57 5 56),
 dF 8 [57] (oF 58 8 57),
 dT 9 [58] (oJ 59 2 58),
 dF 10 [0] (oM 60 0),
 dF 11 [60] (oZ 61 60),
 dF 12 [61] (oF 62 19 61),
 dF 13 [62] (oF 63 5 62),
 dT 14 [63] (oL 64 1 63),
 dF 15 [6] (oM 65 6),
 dF 16 [64, 65] (oA 66 1 64 65),
 dT 17 [66] (oL 67 1 66),
 dF 18 [0] (oM 68 0),
 dF 19 [68] (oZ 69 68),
 dF 20 [69] (oF 70 19 69),
 dT 21 [70] (oJ 71 7 70),
 ⟨22, [71], false, [17, 14, 9, 4], oC 72 99 [.u 71]⟩,
 dF 23 [54, 59, 67, 72] (oC 73 98 [.u 54, .u 59, .u 67, .u 72]),
 dF 24 [73] (oW 49 73),
 dF 25 [49] (oX 74 49 0),
 dF 26 [49] (oX 75 49 1),
 dF 27 [7, 74] (oS 8 7 74),
 dF 28 [75] (oV 1 75)]
 (sR [oM 76 1,
 oT 77 (.bin .eql (.u 76) (xI 0))]
 (cT 77
 (.regionD [dF 0 [0] (oM 78 0),
 dF 1 [78] (oZ 79 78),
 dF 2 [79] (oF 80 27 79),
 dF 3 [80] (oF 81 3 80),
 dT 4 [81] (oL 82 1 81),
 dF 5 [6] (oM 83 6),
 dF 6 [0] (oM 84 0),
 dF 7 [84] (oZ 85 84),
 dF 8 [85] (oF 86 0 85),
 dF 9 [86] (oF 87 0 86),
 dT 10 [87] (oJ 88 2 87),
 dF 11 [0] (oM 89 0),
 dF 12 [89] (oZ 90 89),
 dF 13 [90] (oF 91 19 90),
 dF 14 [91] (oF 92 5 91),
 dT 15 [92] (oL 93 1 92),
 dF 16 [6] (oM 94 6),
 dF 17 [93, 94] (oA 95 1 93 94),
 dT 18 [95] (oL 96 1 95),
 dF 19 [5] (oM 97 5),
 dF 20 [6] (oM 98 6),
 dF 21 [97, 98] (oA 99 1 97 98),
 dT 22 [99] (oL 100 1 99),
 dT 23 [7] (oK 101 8 7),
 ⟨24, [88, 96, 100, 101], false, [4], oC 102 100 [.u 88, .u 96, .u 100, .u 101]⟩,
 dF 25 [82, 83] (oA 103 13 82 83),
 dF 26 [103, 102] (oR 13 103 102)])
 .skip)))
 .skip))
 (.regionD [dF 0 [0] (oM 104 0),
 dF 1 [0] (oM 105 0),
 dF 2 [105] (oZ 106 105),
 dF 3 [106] (oF 107 26 106),
 dT 4 [107] (oL 108 1 107),
 dT 5 [7] (oK 109 8 7),
 dF 6 [109] (oU 110 (.mkS 8 1 [zI, zI, .str [], zI, zI, .bool false, .bool false, .str []] [(0, 8, .u 109)])),
 dF 7 [108, 110] (oU 111 (.app 8 72 (.u 108) (.u 110))),
 dF 8 [104] (oZ 112 104),
 dF 9 [112] (oF 113 26 112),
 dF 10 [113, 111] (oR 1 113 111)])))))
 (.region [oM 21 6,
 oU 22 (.bin .add (.u 21) (xI 1)),
 oV 6 22]))))))
 (sR [oM 114 1,
 oV 4 114]
 .ret)))
def r64 : List LRes := [.slot 4]
theorem t64 : trOk Tryz.prog Tryz.f64 (vL [0, 1, 4, 5, 6, 7, 20, 48, 77]) c64 r64 := ⟨by kernel_rfl, by kernel_rfl⟩
def c65 : LCode :=
 sR [oI 2 0]
 (sR [oM 5 0,
 oZ 6 5,
 oF 7 19 6,
 oF 8 1 7,
 oJ 9 4 8,
 oT 3 (.zero [zI, zI, zI, zI]),
 oS 4 3 9]
 (.seq (sR [oM 10 0,
 oZ 11 10,
 oF 12 19 11,
 oF 13 0 12,
 oT 14 (.load false 1 (.u 13))]
 (.block 0 (sR [oU 16 (.bin .eql (.t 14) (xI 6)),
 oV 15 16]
 (cT 15
 (.seq (sR [oU 17 (.iaA 4 1 (.t 3) (xI 0)),
 oL 18 1 17,
 oU 19 (.bin .lss (.u 18) (xI 0)),
 oW 20 19,
 oO 21 20 (.iaA 4 1 (.t 3) (xI 0)),
 oO 22 20 (.load false 1 (.u 21)),
 oO 23 20 (.bin .gtr (.u 22) (xI 63)),
 oH 24 20 23,
 oW 25 24,
 oO 26 25 (.iaA 4 1 (.t 3) (xI 0)),
 oO 27 25 (.load false 1 (.u 26)),
 oO 28 25 (.bin .and (.u 27) (xI 3)),
 oO 29 25 (.bin .eql (.u 28) (xI 0)),
 oH 30 25 29,
 oW 31 30,
 oO 32 31 (.iaA 4 1 (.t 3) (xI 1)),
 oO 33 31 (.load false 1 (.u 32)),
 oO 34 31 (.call 101 [.u 33]),
 oO 35 31 (.un .not (.u 34)),
 oQ 36 31 35]
 (cT 36
 (sR [oI 2 22]
 .ret)
 .skip))
 (sR [oM 37 0,
 oZ 38 37,
 oF 39 5 38,
 oF 40 12 39,
 oL 41 1 40,
 oU 42 (.lenL (.u 41)),
 oT 43 (.bin .geq (.u 42) (xI 8))]
 (cT 43
 (sR [oI 2 24]
 .ret)
 .skip)))
 (sR [oU 45 (.bin .eql (.t 14) (xI 9)),
 oV 44 45]
 (cT 44
 (.seq (sR [oM 46 0,
 oZ 47 46,
 oF 48 19 47,
 oF 49 6 48,
 oL 50 1 49,
 oU 51 (.iaS 1 (.u 50) (xI 0)),
 oL 52 1 51,
 oT 53 (.bin .eql (.u 52) (.c (.str [])))]
 (cT 53
 (sR [oI 2 2]
 .ret)
 .skip))
 (sR [oI 4 0]
 (.block 1 (.loop (.seq (sR [oM 54 4,
 oM 55 0,
 oZ 56 55,
 oF 57 19 56,
 oF 58 6 57,
 oL 59 1 58,
 oU 60 (.iaS 1 (.u 59) (xI 0)),
 oL 61 1 60,
 oU 62 (.len (.u 61)),
 oT 63 (.bin .lss (.u 54) (.u 62))]
 (cT 63
 .skip
 (.exit 1)))
 (.seq (.block 2 (sR [oM 66 0,
 oZ 67 66,
 oF 68 19 67,
 oF 69 6 68,
 oL 70 1 69,
 oU 71 (.iaS 1 (.u 70) (xI 0)),
 oL 72 1 71,
 oM 73 4,
 oU 74 (.ixS (.u 72) (.u 73)),
 oT 75 (.bin .eql (.u 74) (.c (.int .u8 0)))]
 (cT 75
 (sR [oI 2 22]
 .ret)
 .skip)))
 (.region [oM 64 4,
 oU 65 (.bin .add (.u 64) (xI 1)),
 oV 4 65])))))))
 (.seq (sR [oU 77 (.bin .eql (.t 14) (xI 11)),
 oV 76 77]
 (cT 76
 .skip
 (.region [oU 78 (.bin .eql (.t 14) (xI 14)),
 oV 76 78])))
 (cT 76
 (sR [oU 79 (.iaA 4 1 (.t 3) (xI 0)),
 oL 80 1 79,
 oC 81 101 [.u 80],
 oT 82 (.un .not (.u 81))]
 (cT 82
 (sR [oI 2 22]
 .ret)
 .skip))
 (sR [oU 84 (.bin .eql (.t 14) (xI 15)),
 oV 83 84]
 (cT 83
 (sR [oU 85 (.iaA 4 1 (.t 3) (xI 0)),
 oL 86 1 85,
 oU 87 (.bin .lss (.u 86) (xI 0)),
 oW 88 87,
 oO 89 88 (.iaA 4 1 (.t 3) (xI 0)),
 oO 90 88 (.load false 1 (.u 89)),
 oO 91 88 (.bin .gtr (.u 90) (xI 4294967295)),
 oH 92 88 91,
 oW 93 92,
 oO 94 93 (.iaA 4 1 (.t 3) (xI 1)),
 oO 95 93 (.load false 1 (.u 94)),
 oO 96 93 (.bin .lss (.u 95) (xI 0)),
 oH 97 93 96,
 oW 98 97,
 oO 99 98 (.iaA 4 1 (.t 3) (xI 1)),
 oO 100 98 (.load false 1 (.u 99)),
 oO 101 98 (.bin .gtr (.u 100) (xI 4294967295)),
 oQ 102 98 101]
 (cT 102
 (sR [oI 2 22]
 .ret)
 .skip))
 (sR [oU 104 (.bin .eql (.t 14) (xI 17)),
 oV 103 104]
 (cT 103
 (sR [oM 105 0,
 oZ 106 105,
 oF 107 5 106,
 oF 108 3 107,
 oL 109 1 108,
 oT 110 (.bin .neq (.u 109) (xI 0))]
 (cT 110
 (sR [oI 2 1]
 .ret)
 .skip))
 (sR [oU 112 (.bin .eql (.t 14) (xI 21)),
 oV 111 112]
 (cT 111
 (sR [oU 113 (.iaA 4 1 (.t 3) (xI 0)),
 oL 114 1 113,
 oT 115 (.bin .lss (.u 114) (xI 0))]
 (cT 115
 (sR [oI 2 22]
 .ret)
 .skip))
 .skip))))))))))))))
 (sR [oI 2 0]
 .ret)))
def r65 : List LRes := [.slot 2]
theorem t65 : trOk Tryz.prog Tryz.f65 (vL [0, 2, 3, 4, 14, 15, 36, 43, 44, 53, 63, 75, 76, 82, 83, 102, 103, 110, 111, 115]) c65 r65 := ⟨by kernel_rfl, by kernel_rfl⟩
def c66 : LCode :=
 sR [oI 2 0]
 (.seq (sR [oM 3 0,
 oZ 4 3,
 oF 5 19 4,
 oF 6 0 5,
 oT 7 (.load false 1 (.u 6))]
 (.block 0 (sR [oU 9 (.bin .eql (.t 7) (xI 6)),
 oV 8 9]
 (cT 8
 (sR [oM 10 0,
 oC 11 102 [.u 10],
 oV 2 11]
 .ret)
 (sR [oU 13 (.bin .eql (.t 7) (xI 8)),
 oV 12 13]
 (cT 12
 (sR [oM 14 0,
 oC 15 103 [.u 14],
 oV 2 15]
 .ret)
 (.seq (sR [oU 17 (.bin .eql (.t 7) (xI 10)),
 oV 16 17]
 (cT 16
 .skip
 (.region [oU 18 (.bin .eql (.t 7) (xI 12)),
 oV 16 18])))
 (cT 16
 (sR [oM 19 0,
 oC 20 104 [.u 19],
 oV 2 20]
 .ret)
 (sR [oU 22 (.bin .eql (.t 7) (xI 13)),
 oV 21 22]
 (cT 21
 (sR [oM 23 0,
 oC 24 105 [.u 23],
 oV 2 24]
 .ret)
 (.seq (sR [oU 26 (.bin .eql (.t 7) (xI 14)),
 oV 25 26]
 (cT 25
 .skip
 (.region [oU 27 (.bin .eql (.t 7) (xI 15)),
 oV 25 27])))
 (cT 25
 (sR [oM 28 0,
 oC 29 106 [.u 28],
 oV 2 29]
 .ret)
 (.seq (sR [oU 31 (.bin .eql (.t 7) (xI 1)),
 oV 30 31]
 (cT 30
 .skip
 (sR [oU 32 (.bin .eql (.t 7) (xI 16)),
 oV 30 32]
 (cT 30
 .skip
 (sR [oU 33 (.bin .eql (.t 7) (xI 17)),
 oV 30 33]
 (cT 30
 .skip
 (.region [oU 34 (.bin .eql (.t 7) (xI 21)),
 oV 30 34])))))))
 (cT 30
 (sR [oM 35 0,
 oC 36 107 [.u 35],
 oV 2 36]
 .ret)
 (.seq (sR [oU 38 (.bin .eql (.t 7) (xI 9)),
 oV 37 38]
 (cT 37
 .skip
 (.region [oU 39 (.bin .eql (.t 7) (xI 11)),
 oV 37 39])))
 (cT 37
 (sR [oM 40 0,
 oC 41 108 [.u 40],
 oV 2 41]
 .ret)
 .skip))))))))))))))))
 (sR [oM 42 0,
 oC 43 109 [.u 42],
 oV 2 43]
 .ret))
def r66 : List LRes := [.slot 2]
theorem t66 : trOk Tryz.prog Tryz.f66 (vL [0, 2, 7, 8, 12, 16, 21, 25, 30, 37]) c66 r66 := ⟨by kernel_rfl, by kernel_rfl⟩
def c95 : LCode :=
 sR [oB 1 0,
 oT 2 (.zero [.fsl 1 0 [], .fsl 1 0 []])]
 (sD [dF 0 [1] (oG 3 0 1),
 dT 1 [3] (oJ 4 1 3),
 dF 3 [1] (oG 6 1 1),
 dT 4 [6] (oL 7 1 6),
 ⟨2, [4], false, [4], oC 5 114 [.u 4]⟩,
 dF 5 [7] (oU 8 (.app 3 24 (.c (.fsl 1 0 [])) (.u 7))),
 dF 6 [5, 8] (oU 9 (.build [.fsl 1 0 [], .fsl 1 0 []] [(0, 1, .u 5), (1, 1, .u 8)])),
 dF 7 [2, 9] (oS 2 2 9)]
 .ret)
def r95 : List LRes := [.cell true 2 2]
theorem t95 : trOk Tryz.prog Tryz.f95 (vL [0, 1, 2]) c95 r95 := ⟨by kernel_rfl, by kernel_rfl⟩
def c97 : LCode :=
 sR [oB 1 0,
 oT 2 (.mov (.c (.fsl 1 0 [])))]
 (.seq (sR [oG 4 0 1,
 oT 5 (.load false 1 (.u 4))]
 (.block 0 (sR [oU 7 (.bin .eql (.t 5) (xI 1)),
 oV 6 7]
 (cT 6
 (sR [oU 8 (.mkS 1 1 [zI] [(0, 1, xI 1)]),
 oV 2 8]
 .ret)
 (sR [oU 10 (.bin .eql (.t 5) (xI 6)),
 oV 9 10]
 (cT 9
 (sR [oI 3 0]
 (.seq (sR [oG 11 1 1,
 oU 12 (.iaA 4 1 (.u 11) (xI 0)),
 oL 13 1 12,
 oU 14 (.bin .and (.u 13) (xI 1)),
 oT 15 (.bin .neq (.u 14) (xI 0))]
 (cT 15
 (.region [oM 16 3,
 oU 17 (.bin .add (.u 16) (xI 4)),
 oV 3 17])
 .skip))
 (.seq (sR [oG 18 1 1,
 oU 19 (.iaA 4 1 (.u 18) (xI 0)),
 oL 20 1 19,
 oU 21 (.bin .and (.u 20) (xI 22)),
 oT 22 (.bin .neq (.u 21) (xI 0))]
 (cT 22
 (.region [oM 23 3,
 oU 24 (.bin .add (.u 23) (xI 2)),
 oV 3 24])
 .skip))
 (sR [oM 25 3,
 oU 26 (.mkS 1 1 [zI] [(0, 1, .u 25)]),
 oV 2 26]
 .ret))))
 (sR [oU 28 (.bin .eql (.t 5) (xI 8)),
 oV 27 28]
 (cT 27
 (sR [oU 29 (.mkS 1 2 [zI] [(0, 1, xI 8), (1, 1, xI 2)]),
 oV 2 29]
 .ret)
 (sR [oU 31 (.bin .eql (.t 5) (xI 13)),
 oV 30 31]
 (cT 30
 (sR [oU 32 (.mkS 1 2 [zI] [(0, 1, xI 2), (1, 1, xI 2)]),
 oV 2 32]
 .ret)
 (.seq (sR [oU 34 (.bin .eql (.t 5) (xI 14)),
 oV 33 34]
 (cT 33
 .skip
 (sR [oU 35 (.bin .eql (.t 5) (xI 15)),
 oV 33 35]
 (cT 33
 .skip
 (.region [oU 36 (.bin .eql (.t 5) (xI 17)),
 oV 33 36])))))
 (cT 33
 (sR [oU 37 (.mkS 1 1 [zI] [(0, 1, xI 8)]),
 oV 2 37]
 .ret)
 (sR [oU 39 (.bin .eql (.t 5) (xI 16)),
 oV 38 39]
 (cT 38
 (sR [oU 40 (.mkS 1 1 [zI] [(0, 1, xI 4)]),
 oV 2 40]
 .ret)
 .skip))))))))))))))
 (sR [oU 41 (.mkS 1 1 [zI] [(0, 1, xI 2)]),
 oV 2 41]
 .ret))
def r97 : List LRes := [.slot 2]
theorem t97 : trOk Tryz.prog Tryz.f97 (vL [0, 1, 2, 3, 5, 6, 9, 15, 22, 27, 30, 33, 38]) c97 r97 := ⟨by kernel_rfl, by kernel_rfl⟩
def c98 : LCode :=
 sR [oB 4 0,
 oB 5 1,
 oT 8 (.zero [zI, zI, .str [], zI, zI, .bool false, .bool false, .str []]),
 oI 9 0]
 (sR [oM 27 2,
 oC 28 117 [.u 27],
 oW 26 28,
 oX 29 26 0,
 oX 30 26 1,
 oX 31 26 2,
 oV 10 29,
 oV 11 30,
 oV 12 31]
 (.seq (sR [oM 32 2,
 oT 33 (.bin .eql (.u 32) (.c (.str [])))]
 (cT 33
 (sR [oU 34 (.build [zI, zI, .str [], zI, zI, .bool false, .bool false, .str []] []),
 oS 8 8 34,
 oI 9 2]
 .ret)
 .skip))
 (.seq (sR [oM 35 2,
 oU 36 (.len (.u 35)),
 oT 37 (.bin .gtr (.u 36) (xI 128))]
 (cT 37
 (sR [oU 38 (.build [zI, zI, .str [], zI, zI, .bool false, .bool false, .str []] []),
 oS 8 8 38,
 oI 9 36]
 .ret)
 .skip))
 (sR [oK 39 2 5,
 oT 13 (.zero [zI, zI]),
 oS 2 13 39]
 (.seq (sR [oT 40 (.mov (.t 11))]
 (cT 40
 (.region [oK 41 2 4,
 oC 42 118 [.u 41],
 oS 2 13 42])
 .skip))
 (.seq (sR [oG 43 0 4,
 oJ 44 1 43,
 oK 45 2 13,
 oC 46 119 [.u 44, .u 45],
 oT 47 (.un .not (.u 46))]
 (cT 47
 (sR [oU 48 (.build [zI, zI, .str [], zI, zI, .bool false, .bool false, .str []] []),
 oS 8 8 48,
 oI 9 2]
 .ret)
 .skip))
 (sR [oK 49 2 13,
 oK 50 2 13,
 oU 51 (.build [zI, zI, .str [], zI, zI, .bool false, .bool false, .str []] [(0, 2, .u 49), (3, 2, .u 50), (5, 1, (.c (.bool true)))]),
 oT 14 (.zero [zI, zI, .str [], zI, zI, .bool false, .bool false, .str []]),
 oS 8 14 51]
 (sR [oI 15 0]
 (.seq (.block 0 (.loop (.seq (sR [oM 52 10,
 oU 53 (.lenL (.u 52)),
 oT 54 (.bin .gtr (.u 53) (xI 0))]
 (cT 54
 .skip
 (.exit 0)))
 (.block 1 (sR [oM 55 10,
 oU 56 (.iaS 1 (.u 55) (xI 0)),
 oL 57 1 56,
 oV 16 57]
 (sR [oM 58 10,
 oU 59 (.slL 1 (.u 58) (some (xI 1)) none none),
 oV 10 59]
 (sR [oG 60 3 14,
 oJ 61 2 60,
 oS 2 13 61]
 (.seq (sR [oG 62 0 4,
 oJ 63 1 62,
 oK 64 2 13,
 oC 65 119 [.u 63, .u 64],
 oT 66 (.un .not (.u 65))]
 (cT 66
 (sR [oU 67 (.build [zI, zI, .str [], zI, zI, .bool false, .bool false, .str []] []),
 oS 8 8 67,
 oI 9 20]
 .ret)
 .skip))
 (.seq (sR [oM 68 16,
 oU 69 (.len (.u 68)),
 oT 70 (.bin .gtr (.u 69) (xI 12))]
 (cT 70
 (sR [oU 71 (.build [zI, zI, .str [], zI, zI, .bool false, .bool false, .str []] []),
 oS 8 8 71,
 oI 9 36]
 .ret)
 .skip))
 (.seq (sR [oM 72 16,
 oU 73 (.bin .eql (.u 72) (.c (.str [46]))),
 oW 74 73,
 oO 75 74 (.mov (.t 16)),
 oO 76 74 (.bin .eql (.u 75) (.c (.str [46, 46]))),
 oQ 77 74 76]
 (cT 77
 (.seq (sR [oM 78 16,
 oT 79 (.bin .eql (.u 78) (.c (.str [46, 46])))]
 (cT 79
 (.regionD [dT 0 [4] (oK 80 2 4),
 dT 1 [4] (oK 81 2 4),
 dT 2 [13] (oK 82 2 13),
 ⟨3, [81, 82], false, [0], oC 83 121 [.u 81, .u 82]⟩,
 dF 4 [80, 83] (oC 84 120 [.u 80, .u 83]),
 dF 5 [13, 84] (oS 2 13 84)])
 .skip))
 (sR [oK 85 2 13,
 oK 86 2 13,
 oU 87 (.build [zI, zI, .str [], zI, zI, .bool false, .bool false, .str []] [(0, 2, .u 85), (3, 2, .u 86), (5, 1, (.c (.bool true)))]),
 oS 8 14 87]
 (.exit 1)))
 .skip))
 (sR [oG 89 0 4,
 oJ 90 1 89,
 oK 91 2 13,
 oM 92 16,
 oC 93 122 [.u 90, .u 91, .u 92],
 oW 88 93,
 oX 94 88 0,
 oX 95 88 1,
 oT 17 (.zero [zI, zI]),
 oS 2 17 94,
 oV 18 95]
 (.seq (sR [oM 96 18,
 oT 97 (.bin .neq (.u 96) (xI 0))]
 (cT 97
 (.seq (sR [oM 98 10,
 oU 99 (.lenL (.u 98)),
 oU 100 (.bin .gtr (.u 99) (xI 0)),
 oW 101 100,
 oO 102 101 (.mov (.t 16)),
 oO 103 101 (.call 123 [.u 102]),
 oO 104 101 (.un .not (.u 103)),
 oQ 105 101 104]
 (cT 105
 (sR [oU 106 (.build [zI, zI, .str [], zI, zI, .bool false, .bool false, .str []] []),
 oS 8 8 106,
 oI 9 2]
 .ret)
 .skip))
 (sR [oK 107 2 13,
 oM 108 16,
 oU 109 (.build [zI, zI, .str [], zI, zI, .bool false, .bool false, .str []] [(0, 2, .u 107), (2, 1, .u 108)]),
 oS 8 14 109]
 (.exit 0)))
 .skip))
 (sR [oG 111 0 4,
 oJ 112 1 111,
 oK 113 2 17,
 oC 114 124 [.u 112, .u 113],
 oW 110 114,
 oX 115 110 0,
 oX 116 110 1,
 oT 19 (.zero [zI, zI, zI, zI, zI, zI, .str [], .fsl 1 0 []]),
 oS 8 19 115,
 oW 20 116]
 (.seq (sR [oG 117 1 19,
 oL 118 1 117,
 oU 119 (.bin .eql (.u 118) (xI 3)),
 oW 120 119,
 oY 121 120 (.mov (.t 10)),
 oY 122 120 (.lenL (.u 121)),
 oY 123 120 (.bin .gtr (.u 122) (xI 0)),
 oY 124 120 (.mov (.u 123)),
 oO 125 124 (.mov (.t 3)),
 oY 126 120 (.pick (.u 124) (.c (.bool true)) (.u 125)),
 oY 127 120 (.mov (.u 126)),
 oO 128 127 (.mov (.t 12)),
 oY 129 120 (.pick (.u 127) (.c (.bool true)) (.u 128)),
 oT 130 (.pick (.u 120) (.u 129) (.c (.bool false)))]
 (cT 130
 (.seq (sR [oM 131 15,
 oT 132 (.bin .eql (.u 131) (xI 8))]
 (cT 132
 (sR [oU 133 (.build [zI, zI, .str [], zI, zI, .bool false, .bool false, .str []] []),
 oS 8 8 133,
 oI 9 40]
 .ret)
 .skip))
 (sR [oM 134 15,
 oU 135 (.bin .add (.u 134) (xI 1)),
 oV 15 135]
 (sR [oG 137 6 19,
 oL 138 1 137,
 oC 139 117 [.u 138],
 oW 136 139,
 oX 140 136 0,
 oX 141 136 1,
 oX 142 136 2,
 oV 21 140,
 oV 22 141,
 oW 23 142]
 (.seq (sR [oT 143 (.mov (.t 22))]
 (cT 143
 (.region [oK 144 2 4,
 oC 145 118 [.u 144],
 oS 2 13 145])
 .skip))
 (sR [oM 146 21,
 oU 147 (.app 1 16 (.c (.fsl 1 0 [])) (.u 146)),
 oM 148 10,
 oU 149 (.app 1 16 (.u 147) (.u 148)),
 oV 10 149]
 (sR [oK 150 2 13,
 oK 151 2 13,
 oU 152 (.build [zI, zI, .str [], zI, zI, .bool false, .bool false, .str []] [(0, 2, .u 150), (3, 2, .u 151), (5, 1, (.c (.bool true)))]),
 oS 8 14 152]
 (.exit 1)))))))
 .skip))
 (.regionD [dT 0 [13] (oK 153 2 13),
 dF 1 [16] (oM 154 16),
 dT 2 [4] (oK 155 2 4),
 dT 3 [17] (oK 156 2 17),
 ⟨4, [155, 156], false, [0], oC 157 120 [.u 155, .u 156]⟩,
 dF 5 [153, 154, 157] (oU 158 (.build [zI, zI, .str [], zI, zI, .bool false, .bool false, .str []] [(0, 2, .u 153), (2, 1, .u 154), (3, 2, .u 157), (5, 1, (.c (.bool true)))])),
 dF 6 [14, 158] (oS 8 14 158)])))))))))))))))
 (.seq (sR [oM 159 12,
 oW 160 159,
 oY 161 160 (.faddr 5 (.t 14)),
 oY 162 160 (.load false 1 (.u 161)),
 oU 163 (.pick (.u 160) (.u 162) (.c (.bool false))),
 oW 164 163,
 oY 165 164 (.faddr 0 (.t 4)),
 oY 166 164 (.load true 1 (.u 165)),
 oY 167 164 (.faddr 3 (.t 14)),
 oY 168 164 (.load true 2 (.u 167)),
 oY 169 164 (.call 119 [.u 166, .u 168]),
 oY 170 164 (.un .not (.u 169)),
 oT 171 (.pick (.u 164) (.u 170) (.c (.bool false)))]
 (cT 171
 (sR [oU 172 (.build [zI, zI, .str [], zI, zI, .bool false, .bool false, .str []] []),
 oS 8 8 172,
 oI 9 20]
 .ret)
 .skip))
 (sR [oM 173 12,
 oG 174 6 14,
 oR 1 174 173]
 (.seq (sR [oK 176 2 4,
 oG 177 0 14,
 oJ 178 2 177,
 oC 179 125 [.u 176, .u 178],
 oW 175 179,
 oX 180 175 0,
 oX 181 175 1,
 oV 24 180,
 oV 25 181]
 (sR [oT 182 (.mov (.t 25))]
 (cT 182
 (sR [oM 183 24,
 oG 184 7 14,
 oR 1 184 183]
 (sR [oG 185 2 14,
 oL 186 1 185,
 oT 187 (.bin .neq (.u 186) (.c (.str [])))]
 (cT 187
 (.region [oM 188 24,
 oG 189 2 14,
 oL 190 1 189,
 oC 191 126 [.u 188, .u 190],
 oG 192 7 14,
 oR 1 192 191])
 .skip)))
 .skip)))
 (sR [oK 193 8 14,
 oS 8 8 193,
 oI 9 0]
 .ret)))))))))))))
def r98 : List LRes := [.cell true 8 8, .slot 9]
theorem t98 : trOk Tryz.prog Tryz.f98 (vL [0, 1, 2, 3, 4, 5, 8, 9, 10, 11, 12, 13, 14, 15, 16, 17, 18, 19, 21, 22, 24, 25, 33, 37, 40, 47, 54, 66, 70, 77, 79, 97, 105, 130, 132, 143, 171, 182, 187]) c98 r98 := ⟨by kernel_rfl, by kernel_rfl⟩
def c99 : LCode :=
 sR [oB 1 0,
 oP 2 false]
 (.seq (sR [oG 3 0 1,
 oT 4 (.load false 1 (.u 3))]
 (.block 0 (sR [oU 6 (.bin .eql (.t 4) (xI 6)),
 oV 5 6]
 (cT 5
 (sR [oG 7 1 1,
 oU 8 (.iaA 4 1 (.u 7) (xI 0)),
 oL 9 1 8,
 oU 10 (.bin .and (.u 9) (xI 32)),
 oU 11 (.bin .eql (.u 10) (xI 0)),
 oV 2 11]
 .ret)
 (.seq (sR [oU 13 (.bin .eql (.t 4) (xI 1)),
 oV 12 13]
 (cT 12
 .skip
 (sR [oU 14 (.bin .eql (.t 4) (xI 14)),
 oV 12 14]
 (cT 12
 .skip
 (sR [oU 15 (.bin .eql (.t 4) (xI 15)),
 oV 12 15]
 (cT 12
 .skip
 (sR [oU 16 (.bin .eql (.t 4) (xI 16)),
 oV 12 16]
 (cT 12
 .skip
 (sR [oU 17 (.bin .eql (.t 4) (xI 17)),
 oV 12 17]
 (cT 12
 .skip
 (.region [oU 18 (.bin .eql (.t 4) (xI 21)),
 oV 12 18])))))))))))
 (cT 12
 (sR [oP 2 true]
 .ret)
 .skip))))))
 (sR [oP 2 false]
 .ret))
def r99 : List LRes := [.slot 2]
theorem t99 : trOk Tryz.prog Tryz.f99 (vL [0, 1, 2, 4, 5, 12]) c99 r99 := ⟨by kernel_rfl, by kernel_rfl⟩
def c100 : LCode :=
 sR [oB 4 0,
 oB 7 3,
 oT 8 (.zero [.str [], .str [], zI, zI, .str [], zI, zI, zI, zI, zI, zI, zI, zI])]
 (sR [oG 12 0 4,
 oJ 13 1 12,
 oG 14 3 7,
 oJ 15 2 14,
 oC 16 124 [.u 13, .u 15],
 oW 11 16,
 oX 17 11 0,
 oX 18 11 1,
 oT 9 (.zero [zI, zI, zI, zI, zI, zI, .str [], .fsl 1 0 []]),
 oS 8 9 17,
 oW 10 18]
 (sR [oM 19 1,
 oG 20 7 7,
 oL 21 1 20,
 oG 22 0 7,
 oJ 23 2 22,
 oG 24 2 7,
 oL 25 1 24,
 oG 26 3 7,
 oJ 27 2 26,
 oG 28 1 9,
 oL 29 1 28,
 oG 30 2 9,
 oL 31 1 30,
 oG 32 3 9,
 oL 33 1 32,
 oG 34 4 9,
 oL 35 1 34,
 oM 36 2,
 oU 37 (.build [.str [], .str [], zI, zI, .str [], zI, zI, zI, zI, zI, zI, zI, zI] [(0, 1, .u 19), (1, 1, .u 21), (2, 2, .u 23), (4, 1, .u 25), (5, 2, .u 27), (7, 1, xI 1), (8, 1, .u 29), (9, 1, .u 31), (10, 1, .u 33), (11, 1, .u 35), (12, 1, .u 36)]),
 oS 13 8 37]
 .ret))
def r100 : List LRes := [.cell true 13 8]
theorem t100 : trOk Tryz.prog Tryz.f100 (vL [0, 1, 2, 3, 4, 7, 8, 9]) c100 r100 := ⟨by kernel_rfl, by kernel_rfl⟩
def c101 : LCode :=
 sR [oP 2 false]
 (sR [oM 3 0,
 oU 4 (.bin .geq (.u 3) (xI 0)),
 oW 5 4,
 oY 6 5 (.mov (.t 0)),
 oY 7 5 (.bin .leq (.u 6) (xI 511)),
 oU 8 (.pick (.u 5) (.u 7) (.c (.bool false))),
 oV 2 8]
 .ret)
def r101 : List LRes := [.slot 2]
theorem t101 : trOk Tryz.prog Tryz.f101 (vL [0, 2]) c101 r101 := ⟨by kernel_rfl, by kernel_rfl⟩
def c102 : LCode :=
 sR [oI 2 0]
 (sD [dF 0 [0] (oM 12 0),
 dF 1 [12] (oZ 13 12),
 dF 2 [13] (oF 14 26 13),
 dT 3 [14] (oL 15 1 14),
 dF 4 [15] (oU 16 (.iaS 8 (.u 15) (xI 0))),
 dT 5 [16] (oJ 17 8 16),
 dF 6 [0] (oM 18 0),
 dF 7 [18] (oZ 19 18),
 dF 8 [19] (oF 20 19 19),
 dF 9 [20] (oF 21 1 20),
 dF 10 [21] (oU 22 (.iaA 4 1 (.u 21) (xI 0))),
 dT 11 [22] (oL 23 1 22),
 ⟨12, [], false, [11, 5, 3], oT 3 (.zero [zI, zI, .str [], zI, zI, .bool false, .bool false, .str []])⟩,
 ⟨13, [3, 17], false, [11], oS 8 3 17⟩,
 dF 14 [23] (oV 4 23)]
 (.seq (sR [oG 24 5 3,
 oT 25 (.load false 1 (.u 24))]
 (cT 25
 (sD [dF 0 [0] (oM 27 0),
 dF 1 [27] (oZ 28 27),
 dF 2 [28] (oF 29 0 28),
 dF 3 [29] (oF 30 0 29),
 dF 4 [30] (oF 31 0 30),
 dT 5 [31] (oJ 32 1 31),
 dF 6 [3] (oG 33 3 3),
 dT 7 [33] (oJ 34 2 33),
 dF 8 [32, 34] (oC 35 124 [.u 32, .u 34]),
 dF 9 [35] (oW 26 35),
 dF 10 [26] (oX 36 26 0),
 dF 11 [26] (oX 37 26 1),
 dF 12 [] (oT 5 (.zero [zI, zI, zI, zI, zI, zI, .str [], .fsl 1 0 []])),
 dF 13 [5, 36] (oS 8 5 36),
 dF 14 [37] (oW 6 37)]
 (sR [oI 7 0]
 (.seq (sR [oM 38 4,
 oU 39 (.bin .and (.u 38) (xI 1)),
 oT 40 (.bin .neq (.u 39) (xI 0))]
 (cT 40
 (.region [oM 41 7,
 oU 42 (.bin .add (.u 41) (xI 4)),
 oV 7 42])
 .skip))
 (.seq (sR [oM 43 4,
 oU 44 (.bin .and (.u 43) (xI 18)),
 oT 45 (.bin .neq (.u 44) (xI 0))]
 (cT 45
 (.region [oM 46 7,
 oU 47 (.bin .add (.u 46) (xI 2)),
 oV 7 47])
 .skip))
 (.block 0 (sR [oM 49 4,
 oU 50 (.bin .and (.u 49) (xI 4)),
 oU 51 (.bin .neq (.u 50) (xI 0)),
 oW 52 51,
 oY 53 52 (.mov (.t 4)),
 oY 54 52 (.bin .and (.u 53) (xI 8)),
 oY 55 52 (.bin .neq (.u 54) (xI 0)),
 oU 56 (.pick (.u 52) (.u 55) (.c (.bool false))),
 oV 48 56]
 (cT 48
 (sR [oI 2 17]
 .ret)
 (sR [oG 58 1 5,
 oL 59 1 58,
 oU 60 (.bin .eql (.u 59) (xI 3)),
 oV 57 60]
 (cT 57
 (sR [oI 2 40]
 .ret)
 (sR [oG 62 1 5,
 oL 63 1 62,
 oU 64 (.bin .eql (.u 63) (xI 2)),
 oW 65 64,
 oY 66 65 (.mov (.t 4)),
 oY 67 65 (.bin .and (.u 66) (xI 22)),
 oY 68 65 (.bin .neq (.u 67) (xI 0)),
 oU 69 (.pick (.u 65) (.u 68) (.c (.bool false))),
 oV 61 69]
 (cT 61
 (sR [oI 2 21]
 .ret)
 (sR [oM 71 0,
 oG 72 3 3,
 oJ 73 2 72,
 oM 74 7,
 oC 75 127 [.u 71, .u 73, .u 74],
 oU 76 (.un .not (.u 75)),
 oV 70 76]
 (cT 70
 (sR [oI 2 13]
 .ret)
 .skip)))))))))))))
 (.seq (.block 1 (sR [oM 78 4,
 oU 79 (.bin .and (.u 78) (xI 4)),
 oU 80 (.bin .eql (.u 79) (xI 0)),
 oV 77 80]
 (cT 77
 (sR [oI 2 2]
 .ret)
 (sR [oG 82 6 3,
 oL 83 1 82,
 oV 81 83]
 (cT 81
 (sR [oI 2 21]
 .ret)
 (sR [oM 85 0,
 oG 86 0 3,
 oJ 87 2 86,
 oC 88 127 [.u 85, .u 87, xI 2],
 oU 89 (.un .not (.u 88)),
 oV 84 89]
 (cT 84
 (sR [oI 2 13]
 .ret)
 .skip)))))))
 (.seq (sR [oM 90 0,
 oM 91 0,
 oZ 92 91,
 oF 93 19 92,
 oF 94 1 93,
 oU 95 (.iaA 4 1 (.u 94) (xI 1)),
 oL 96 1 95,
 oU 97 (.build [zI, zI, zI, zI, zI, zI, .str [], .fsl 1 0 []] [(1, 1, xI 1), (2, 1, .u 96)]),
 oC 98 128 [.u 90, xI 0, .u 97],
 oV 8 98]
 (sR [oM 99 8,
 oT 100 (.bin .neq (.u 99) (xI 0))]
 (cT 100
 (sR [oM 101 8,
 oV 2 101]
 .ret)
 .skip)))
 (.region [oM 102 0,
 oZ 103 102,
 oF 104 27 103,
 oF 105 4 104,
 oL 106 1 105,
 oU 107 (.iaS 7 (.u 106) (xI 0)),
 oF 108 5 107,
 oJ 109 2 108,
 oG 110 3 3,
 oR 2 110 109])))))
 (sD [dF 0 [0] (oM 112 0),
 dF 1 [112] (oZ 113 112),
 dF 2 [113] (oF 114 0 113),
 dF 3 [114] (oF 115 2 114),
 dT 4 [115] (oJ 116 3 115),
 dF 5 [0] (oM 117 0),
 dF 6 [117] (oZ 118 117),
 dF 7 [118] (oF 119 5 118),
 dF 8 [119] (oF 120 0 119),
 dT 9 [120] (oL 121 1 120),
 dF 10 [3] (oG 122 3 3),
 dT 11 [122] (oJ 123 2 122),
 dF 12 [4] (oM 124 4),
 dF 13 [116, 121, 123, 124] (oC 125 45 [.u 116, .u 121, .u 123, .u 124]),
 dF 14 [125] (oW 111 125),
 dF 15 [111] (oX 126 111 0),
 dF 16 [111] (oX 127 111 1),
 dF 17 [111] (oX 128 111 2),
 dF 18 [] (oT 9 (.zero [zI, zI, .fsl 1 0 []])),
 dF 19 [9, 126] (oS 3 9 126),
 dF 20 [127] (oV 10 127),
 dF 21 [128] (oV 11 128)]
 (sR [oM 129 0,
 oM 130 10,
 oZ 131 129,
 oF 132 27 131,
 oF 133 0 132,
 oR 1 133 130]
 (sR [oM 134 0,
 oK 135 3 9,
 oM 136 11,
 oC 137 129 [.u 134, .u 135, .u 136],
 oV 2 137]
 .ret)))))
def r102 : List LRes := [.slot 2]
theorem t102 : trOk Tryz.prog Tryz.f102 (vL [0, 2, 3, 4, 5, 7, 8, 9, 10, 11, 25, 40, 45, 48, 57, 61, 70, 77, 81, 84, 100]) c102 r102 := ⟨by kernel_rfl, by kernel_rfl⟩
def c103 : LCode :=
 sR [oI 2 0]
 (sD [dF 0 [0] (oM 6 0),
 dF 1 [6] (oZ 7 6),
 dF 2 [7] (oF 8 26 7),
 dT 3 [8] (oL 9 1 8),
 dF 4 [9] (oU 10 (.iaS 8 (.u 9) (xI 0))),
 dT 5 [10] (oJ 11 8 10),
 dF 6 [0] (oM 12 0),
 dF 7 [12] (oZ 13 12),
 dF 8 [13] (oF 14 26 13),
 dT 9 [14] (oL 15 1 14),
 dF 10 [15] (oU 16 (.iaS 8 (.u 15) (xI 1))),
 dT 11 [16] (oJ 17 8 16),
 ⟨12, [], false, [11, 9, 5, 3], oT 3 (.zero [zI, zI, .str [], zI, zI, .bool false, .bool false, .str []])⟩,
 ⟨13, [], false, [11, 9, 5, 3], oT 4 (.zero [zI, zI, .str [], zI, zI, .bool false, .bool false, .str []])⟩,
 ⟨14, [3, 11], false, [11, 9], oS 8 3 11⟩,
 dF 15 [4, 17] (oS 8 4 17)]
 (.seq (.block 0 (sR [oG 19 5 3,
 oL 20 1 19,
 oU 21 (.un .not (.u 20)),
 oV 18 21]
 (cT 18
 (sR [oI 2 2]
 .ret)
 (sR [oM 23 0,
 oC 24 130 [.u 23, xI 0],
 oV 22 24]
 (cT 22
 (sR [oI 2 1]
 .ret)
 (sR [oG 26 5 4,
 oL 27 1 26,
 oV 25 27]
 (cT 25
 (sR [oI 2 17]
 .ret)
 (sR [oG 29 6 4,
 oL 30 1 29,
 oV 28 30]
 (cT 28
 (sR [oI 2 2]
 .ret)
 (sR [oG 32 3 3,
 oF 33 0 32,
 oL 34 1 33,
 oG 35 0 4,
 oF 36 0 35,
 oL 37 1 36,
 oU 38 (.bin .neq (.u 34) (.u 37)),
 oV 31 38]
 (cT 31
 (sR [oI 2 18]
 .ret)
 (sR [oM 40 0,
 oG 41 0 4,
 oJ 42 2 41,
 oC 43 127 [.u 40, .u 42, xI 2],
 oU 44 (.un .not (.u 43)),
 oV 39 44]
 (cT 39
 (sR [oI 2 13]
 .ret)
 .skip)))))))))))))
 (sD [dF 0 [0] (oM 45 0),
 dF 1 [0] (oM 46 0),
 dF 2 [46] (oZ 47 46),
 dF 3 [47] (oF 48 0 47),
 dF 4 [48] (oF 49 0 48),
 dF 5 [49] (oF 50 0 49),
 dT 6 [50] (oJ 51 1 50),
 dF 7 [4] (oG 52 0 4),
 dT 8 [52] (oJ 53 2 52),
 dF 9 [4] (oG 54 2 4),
 dT 10 [54] (oL 55 1 54),
 dF 11 [3] (oG 56 3 3),
 dT 12 [56] (oJ 57 2 56),
 dF 13 [51, 53, 55, 57] (oC 58 132 [.u 51, .u 53, .u 55, .u 57]),
 dF 14 [58] (oX 59 58 0),
 dF 15 [58] (oX 60 58 1),
 dF 16 [58] (oX 61 58 2),
 dF 17 [45, 59, 60, 61] (oC 62 131 [.u 45, .u 59, .u 60, .u 61]),
 dF 18 [62] (oV 5 62)]
 (.seq (sR [oM 63 5,
 oT 64 (.bin .eql (.u 63) (xI 0))]
 (cT 64
 (.region [oM 65 0,
 oG 66 3 3,
 oJ 67 2 66,
 oC 68 133 [.u 65, xI 1, .u 67]])
 .skip))
 (sR [oM 69 5,
 oV 2 69]
 .ret)))))
def r103 : List LRes := [.slot 2]
theorem t103 : trOk Tryz.prog Tryz.f103 (vL [0, 2, 3, 4, 5, 18, 22, 25, 28, 31, 39, 64]) c103 r103 := ⟨by kernel_rfl, by kernel_rfl⟩
def c104 : LCode :=
 sR [oI 2 0]
 (sR [oM 7 0,
 oZ 8 7,
 oF 9 26 8,
 oL 10 1 9,
 oU 11 (.iaS 8 (.u 10) (xI 0)),
 oJ 12 8 11,
 oT 3 (.zero [zI, zI, .str [], zI, zI, .bool false, .bool false, .str []]),
 oS 8 3 12]
 (.seq (sR [oG 13 5 3,
 oL 14 1 13,
 oT 15 (.un .not (.u 14))]
 (cT 15
 (sR [oI 2 2]
 .ret)
 .skip))
 (sR [oI 4 0]
 (.seq (sR [oM 16 0,
 oZ 17 16,
 oF 18 19 17,
 oF 19 0 18,
 oL 20 1 19,
 oT 21 (.bin .eql (.u 20) (xI 10))]
 (cT 21
 (.seq (sR [oG 22 2 3,
 oL 23 1 22,
 oU 24 (.bin .eql (.u 23) (.c (.str []))),
 oW 25 24,
 oO 26 25 (.mov (.t 0)),
 oO 27 25 (.call 130 [.u 26, xI 0]),
 oQ 28 25 27]
 (cT 28
 (sR [oI 2 21]
 .ret)
 .skip))
 (.seq (sR [oM 29 0,
 oG 30 0 3,
 oJ 31 2 30,
 oC 32 127 [.u 29, .u 31, xI 2],
 oT 33 (.un .not (.u 32))]
 (cT 33
 (sR [oI 2 13]
 .ret)
 .skip))
 (.regionD [dF 0 [0] (oM 34 0),
 dF 1 [0] (oM 35 0),
 dF 2 [35] (oZ 36 35),
 dF 3 [36] (oF 37 0 36),
 dF 4 [37] (oF 38 0 37),
 dF 5 [38] (oF 39 0 38),
 dT 6 [39] (oJ 40 1 39),
 dF 7 [3] (oG 41 0 3),
 dT 8 [41] (oJ 42 2 41),
 dF 9 [3] (oG 43 2 3),
 dT 10 [43] (oL 44 1 43),
 dF 11 [40, 42, 44] (oC 45 134 [.u 40, .u 42, .u 44]),
 dF 12 [45] (oX 46 45 0),
 dF 13 [45] (oX 47 45 1),
 dF 14 [45] (oX 48 45 2),
 dF 15 [34, 46, 47, 48] (oC 49 131 [.u 34, .u 46, .u 47, .u 48]),
 dF 16 [49] (oV 4 49)])))
 (.seq (sR [oG 50 2 3,
 oL 51 1 50,
 oT 52 (.bin .eql (.u 51) (.c (.str [])))]
 (cT 52
 (sR [oI 2 16]
 .ret)
 .skip))
 (.seq (sR [oM 53 0,
 oC 54 130 [.u 53, xI 0],
 oT 55 (.un .not (.u 54))]
 (cT 55
 (sR [oI 2 20]
 .ret)
 .skip))
 (sD [dF 0 [0] (oM 57 0),
 dF 1 [57] (oZ 58 57),
 dF 2 [58] (oF 59 0 58),
 dF 3 [59] (oF 60 0 59),
 dF 4 [60] (oF 61 0 60),
 dT 5 [61] (oJ 62 1 61),
 dF 6 [3] (oG 63 0 3),
 dT 7 [63] (oJ 64 2 63),
 dF 8 [3] (oG 65 2 3),
 dT 9 [65] (oL 66 1 65),
 dF 10 [62, 64, 66] (oC 67 122 [.u 62, .u 64, .u 66]),
 dF 11 [67] (oW 56 67),
 dF 12 [56] (oX 68 56 0),
 dF 13 [56] (oX 69 56 1),
 dF 14 [] (oT 5 (.zero [zI, zI])),
 dF 15 [5, 68] (oS 2 5 68),
 dF 16 [69] (oW 6 69)]
 (.seq (sR [oM 70 0,
 oK 71 2 5,
 oT 72 (.call 135 [.u 70, .u 71])]
 (cT 72
 (sR [oI 2 16]
 .ret)
 .skip))
 (.seq (sR [oM 73 0,
 oG 74 0 3,
 oJ 75 2 74,
 oC 76 127 [.u 73, .u 75, xI 2],
 oT 77 (.un .not (.u 76))]
 (cT 77
 (sR [oI 2 13]
 .ret)
 .skip))
 (.regionD [dF 0 [0] (oM 78 0),
 dF 1 [0] (oM 79 0),
 dF 2 [79] (oZ 80 79),
 dF 3 [80] (oF 81 0 80),
 dF 4 [81] (oF 82 0 81),
 dF 5 [82] (oF 83 0 82),
 dT 6 [83] (oJ 84 1 83),
 dF 7 [3] (oG 85 0 3),
 dT 8 [85] (oJ 86 2 85),
 dF 9 [3] (oG 87 2 3),
 dT 10 [87] (oL 88 1 87),
 dF 11 [84, 86, 88] (oC 89 136 [.u 84, .u 86, .u 88]),
 dF 12 [89] (oX 90 89 0),
 dF 13 [89] (oX 91 89 1),
 dF 14 [89] (oX 92 89 2),
 dF 15 [78, 90, 91, 92] (oC 93 131 [.u 78, .u 90, .u 91, .u 92]),
 dF 16 [93] (oV 4 93)]))))))))
 (.seq (sR [oM 94 4,
 oT 95 (.bin .eql (.u 94) (xI 0))]
 (cT 95
 (.region [oM 96 0,
 oZ 97 96,
 oF 98 27 97,
 oF 99 3 98,
 oL 100 1 99,
 oU 101 (.iaS 13 (.u 100) (xI 0)),
 oF 102 7 101,
 oN (.store 1 (.u 102) (xI 3))])
 .skip))
 (sR [oM 103 4,
 oV 2 103]
 .ret))))))
def r104 : List LRes := [.slot 2]
theorem t104 : trOk Tryz.prog Tryz.f104 (vL [0, 2, 3, 4, 5, 15, 21, 28, 33, 52, 55, 72, 77, 95]) c104 r104 := ⟨by kernel_rfl, by kernel_rfl⟩
def c105 : LCode :=
 sR [oI 2 0]
 (sD [dF 0 [0] (oM 10 0),
 dF 1 [10] (oZ 11 10),
 dF 2 [11] (oF 12 26 11),
 dT 3 [12] (oL 13 1 12),
 dF 4 [13] (oU 14 (.iaS 8 (.u 13) (xI 0))),
 dT 5 [14] (oJ 15 8 14),
 dF 6 [0] (oM 16 0),
 dF 7 [16] (oZ 17 16),
 dF 8 [17] (oF 18 26 17),
 dT 9 [18] (oL 19 1 18),
 dF 10 [19] (oU 20 (.iaS 8 (.u 19) (xI 1))),
 dT 11 [20] (oJ 21 8 20),
 ⟨12, [], false, [11, 9, 5, 3], oT 3 (.zero [zI, zI, .str [], zI, zI, .bool false, .bool false, .str []])⟩,
 ⟨13, [], false, [11, 9, 5, 3], oT 4 (.zero [zI, zI, .str [], zI, zI, .bool false, .bool false, .str []])⟩,
 ⟨14, [3, 15], false, [11, 9], oS 8 3 15⟩,
 dF 15 [4, 21] (oS 8 4 21)]
 (.seq (.block 0 (sR [oG 23 5 3,
 oL 24 1 23,
 oU 25 (.un .not (.u 24)),
 oV 22 25]
 (cT 22
 (sR [oI 2 2]
 .ret)
 (sR [oG 27 2 3,
 oL 28 1 27,
 oU 29 (.bin .eql (.u 28) (.c (.str []))),
 oW 30 29,
 oO 31 30 (.faddr 2 (.t 4)),
 oO 32 30 (.load false 1 (.u 31)),
 oO 33 30 (.bin .eql (.u 32) (.c (.str []))),
 oH 34 30 33,
 oV 26 34]
 (cT 26
 (sR [oI 2 16]
 .ret)
 (sR [oG 36 6 4,
 oL 37 1 36,
 oW 38 37,
 oY 39 38 (.mov (.t 0)),
 oY 40 38 (.call 130 [.u 39, xI 0]),
 oY 41 38 (.un .not (.u 40)),
 oU 42 (.pick (.u 38) (.u 41) (.c (.bool false))),
 oV 35 42]
 (cT 35
 (sR [oI 2 20]
 .ret)
 (sR [oG 44 0 3,
 oF 45 0 44,
 oL 46 1 45,
 oG 47 0 4,
 oF 48 0 47,
 oL 49 1 48,
 oU 50 (.bin .neq (.u 46) (.u 49)),
 oV 43 50]
 (cT 43
 (sR [oI 2 18]
 .ret)
 (sR [oM 52 0,
 oG 53 0 3,
 oJ 54 2 53,
 oC 55 127 [.u 52, .u 54, xI 2],
 oU 56 (.un .not (.u 55)),
 oW 57 56,
 oO 58 57 (.mov (.t 0)),
 oO 59 57 (.faddr 0 (.t 4)),
 oO 60 57 (.load true 2 (.u 59)),
 oO 61 57 (.call 127 [.u 58, .u 60, xI 2]),
 oO 62 57 (.un .not (.u 61)),
 oH 63 57 62,
 oV 51 63]
 (cT 51
 (sR [oI 2 13]
 .ret)
 .skip)))))))))))
 (sD [dF 0 [0] (oM 65 0),
 dF 1 [65] (oZ 66 65),
 dF 2 [66] (oF 67 0 66),
 dF 3 [67] (oF 68 0 67),
 dF 4 [68] (oF 69 0 68),
 dT 5 [69] (oJ 70 1 69),
 dF 6 [3] (oG 71 0 3),
 dT 7 [71] (oJ 72 2 71),
 dF 8 [3] (oG 73 2 3),
 dT 9 [73] (oL 74 1 73),
 dF 10 [70, 72, 74] (oC 75 122 [.u 70, .u 72, .u 74]),
 dF 11 [75] (oW 64 75),
 dF 12 [64] (oX 76 64 0),
 dF 13 [64] (oX 77 64 1),
 dF 14 [] (oT 5 (.zero [zI, zI])),
 dF 15 [5, 76] (oS 2 5 76),
 dF 16 [77] (oW 6 77)]
 (.seq (sD [dF 0 [0] (oM 79 0),
 dF 1 [79] (oZ 80 79),
 dF 2 [80] (oF 81 0 80),
 dF 3 [81] (oF 82 0 81),
 dF 4 [82] (oF 83 0 82),
 dT 5 [83] (oJ 84 1 83),
 dF 6 [4] (oG 85 0 4),
 dT 7 [85] (oJ 86 2 85),
 dF 8 [4] (oG 87 2 4),
 dT 9 [87] (oL 88 1 87),
 dF 10 [84, 86, 88] (oC 89 122 [.u 84, .u 86, .u 88]),
 dF 11 [89] (oW 78 89),
 dF 12 [78] (oX 90 78 0),
 dF 13 [78] (oX 91 78 1),
 dF 14 [] (oT 7 (.zero [zI, zI])),
 dF 15 [7, 90] (oS 2 7 90),
 dF 16 [91] (oV 8 91)]
 (sD [dF 0 [8] (oM 92 8),
 dF 1 [92] (oU 93 (.bin .eql (.u 92) (xI 0))),
 dF 2 [93] (oW 94 93),
 dT 3 [7, 94] (oY 95 94 (.load true 2 (.t 7))),
 dT 4 [5, 94] (oY 96 94 (.load true 2 (.t 5))),
 dF 5 [95, 96, 94] (oY 97 94 (.eqS true 2 [(0, 1), (1, 1)] (.u 95) (.u 96))),
 dF 6 [94, 97] (oU 98 (.pick (.u 94) (.u 97) (.c (.bool false)))),
 dF 7 [98] (oW 99 98),
 dF 8 [0, 99] (oY 100 99 (.mov (.t 0))),
 dF 9 [100, 99] (oY 101 99 (.nilc (.u 100))),
 dF 10 [101, 99] (oY 102 99 (.faddr 0 (.u 101))),
 dF 11 [102, 99] (oY 103 99 (.faddr 0 (.u 102))),
 dF 12 [103, 99] (oY 104 99 (.faddr 0 (.u 103))),
 dT 13 [104, 99] (oY 105 99 (.load true 1 (.u 104))),
 dT 14 [7, 99] (oY 106 99 (.load true 2 (.t 7))),
 dF 15 [105, 106, 99] (oY 107 99 (.call 119 [.u 105, .u 106])),
 dF 16 [99, 107] (oU 108 (.pick (.u 99) (.u 107) (.c (.bool false)))),
 dF 17 [108] (oW 109 108),
 dF 18 [0, 109] (oY 110 109 (.mov (.t 0))),
 dT 19 [7, 109] (oY 111 109 (.load true 2 (.t 7))),
 dF 20 [110, 111, 109] (oY 112 109 (.call 135 [.u 110, .u 111])),
 dF 21 [109, 112] (oT 113 (.pick (.u 109) (.u 112) (.c (.bool false))))]
 (cT 113
 (sR [oI 2 16]
 .ret)
 .skip)))
 (sD [dF 0 [0] (oM 114 0),
 dF 1 [0] (oM 115 0),
 dF 2 [115] (oZ 116 115),
 dF 3 [116] (oF 117 0 116),
 dF 4 [117] (oF 118 0 117),
 dF 5 [118] (oF 119 0 118),
 dT 6 [119] (oJ 120 1 119),
 dF 7 [3] (oG 121 0 3),
 dT 8 [121] (oJ 122 2 121),
 dF 9 [3] (oG 123 2 3),
 dT 10 [123] (oL 124 1 123),
 dF 11 [4] (oG 125 0 4),
 dT 12 [125] (oJ 126 2 125),
 dF 13 [4] (oG 127 2 4),
 dT 14 [127] (oL 128 1 127),
 dF 15 [120, 122, 124, 126, 128] (oC 129 137 [.u 120, .u 122, .u 124, .u 126, .u 128]),
 dF 16 [129] (oX 130 129 0),
 dF 17 [129] (oX 131 129 1),
 dF 18 [129] (oX 132 129 2),
 dF 19 [114, 130, 131, 132] (oC 133 131 [.u 114, .u 130, .u 131, .u 132]),
 dF 20 [133] (oV 9 133)]
 (.seq (sR [oM 134 9,
 oU 135 (.bin .eql (.u 134) (xI 0)),
 oW 136 135,
 oY 137 136 (.mov (.t 0)),
 oY 138 136 (.nilc (.u 137)),
 oY 139 136 (.faddr 27 (.u 138)),
 oY 140 136 (.faddr 4 (.u 139)),
 oY 141 136 (.load false 1 (.u 140)),
 oY 142 136 (.lenL (.u 141)),
 oY 143 136 (.bin .gtr (.u 142) (xI 0)),
 oT 144 (.pick (.u 136) (.u 143) (.c (.bool false)))]
 (cT 144
 (sR [oM 145 0,
 oZ 146 145,
 oF 147 27 146,
 oF 148 3 147,
 oL 149 1 148,
 oU 150 (.iaS 13 (.u 149) (xI 0)),
 oF 151 7 150,
 oN (.store 1 (.u 151) (xI 3))]
 (.region [oM 152 0,
 oK 153 2 5,
 oC 154 133 [.u 152, xI 1, .u 153]]))
 .skip))
 (sR [oM 155 9,
 oV 2 155]
 .ret)))))))
def r105 : List LRes := [.slot 2]
theorem t105 : trOk Tryz.prog Tryz.f105 (vL [0, 2, 3, 4, 5, 7, 8, 9, 22, 26, 35, 43, 51, 113, 144]) c105 r105 := ⟨by kernel_rfl, by kernel_rfl⟩
def c106 : LCode :=
 sR [oI 2 0]
 (sR [oM 8 0,
 oZ 9 8,
 oF 10 26 9,
 oL 11 1 10,
 oU 12 (.iaS 8 (.u 11) (xI 0)),
 oJ 13 8 12,
 oT 3 (.zero [zI, zI, .str [], zI, zI, .bool false, .bool false, .str []]),
 oS 8 3 13]
 (.seq (sR [oG 14 5 3,
 oL 15 1 14,
 oT 16 (.un .not (.u 15))]
 (cT 16
 (sR [oI 2 2]
 .ret)
 .skip))
 (sD [dF 0 [0] (oM 18 0),
 dF 1 [18] (oZ 19 18),
 dF 2 [19] (oF 20 0 19),
 dF 3 [20] (oF 21 0 20),
 dF 4 [21] (oF 22 0 21),
 dT 5 [22] (oJ 23 1 22),
 dF 6 [3] (oG 24 3 3),
 dT 7 [24] (oJ 25 2 24),
 dF 8 [23, 25] (oC 26 124 [.u 23, .u 25]),
 dF 9 [26] (oW 17 26),
 dF 10 [17] (oX 27 17 0),
 dF 11 [17] (oX 28 17 1),
 dF 12 [] (oT 4 (.zero [zI, zI, zI, zI, zI, zI, .str [], .fsl 1 0 []])),
 dF 13 [4, 27] (oS 8 4 27),
 dF 14 [28] (oW 5 28)]
 (.seq (sR [oM 29 0,
 oZ 30 29,
 oF 31 19 30,
 oF 32 0 31,
 oL 33 1 32,
 oT 34 (.bin .eql (.u 33) (xI 14))]
 (cT 34
 (.seq (sD [dF 0 [0] (oM 35 0),
 dF 1 [35] (oZ 36 35),
 dF 2 [36] (oF 37 5 36),
 dF 3 [37] (oF 38 3 37),
 dT 4 [38] (oL 39 1 38),
 dF 5 [39] (oU 40 (.bin .neq (.u 39) (xI 0))),
 dF 6 [40] (oW 41 40),
 dF 7 [0, 41] (oY 42 41 (.mov (.t 0))),
 dF 8 [42, 41] (oY 43 41 (.nilc (.u 42))),
 dF 9 [43, 41] (oY 44 41 (.faddr 5 (.u 43))),
 dF 10 [44, 41] (oY 45 41 (.faddr 3 (.u 44))),
 dT 11 [45, 41] (oY 46 41 (.load false 1 (.u 45))),
 dF 12 [4, 41] (oY 47 41 (.faddr 3 (.t 4))),
 dT 13 [47, 41] (oY 48 41 (.load false 1 (.u 47))),
 dF 14 [46, 48, 41] (oY 49 41 (.bin .neq (.u 46) (.u 48))),
 dF 15 [41, 49] (oT 50 (.pick (.u 41) (.u 49) (.c (.bool false))))]
 (cT 50
 (sR [oI 2 1]
 .ret)
 .skip))
 (.region [oM 51 0,
 oZ 52 51,
 oF 53 19 52,
 oF 54 1 53,
 oU 55 (.iaA 4 1 (.u 54) (xI 0)),
 oL 56 1 55,
 oG 57 2 4,
 oR 1 57 56]))
 (.seq (sR [oM 58 0,
 oZ 59 58,
 oF 60 5 59,
 oF 61 3 60,
 oL 62 1 61,
 oT 63 (.bin .neq (.u 62) (xI 0))]
 (cT 63
 (sR [oI 2 1]
 .ret)
 .skip))
 (.regionD [dF 0 [0] (oM 64 0),
 dF 1 [64] (oZ 65 64),
 dF 2 [65] (oF 66 19 65),
 dF 3 [66] (oF 67 1 66),
 dF 4 [67] (oU 68 (.iaA 4 1 (.u 67) (xI 0))),
 dT 5 [68] (oL 69 1 68),
 dF 6 [0] (oM 70 0),
 dF 7 [70] (oZ 71 70),
 dF 8 [71] (oF 72 19 71),
 dF 9 [72] (oF 73 1 72),
 dF 10 [73] (oU 74 (.iaA 4 1 (.u 73) (xI 1))),
 dT 11 [74] (oL 75 1 74),
 dF 12 [4] (oG 76 3 4),
 ⟨13, [76, 69], false, [11], oR 1 76 69⟩,
 dF 14 [4] (oG 77 4 4),
 dF 15 [77, 75] (oR 1 77 75)]))))
 (sD [dF 0 [0] (oM 79 0),
 dF 1 [79] (oZ 80 79),
 dF 2 [80] (oF 81 0 80),
 dF 3 [81] (oF 82 0 81),
 dF 4 [82] (oF 83 0 82),
 dT 5 [83] (oJ 84 1 83),
 dF 6 [3] (oG 85 3 3),
 dT 7 [85] (oJ 86 2 85),
 dF 8 [4] (oG 87 2 4),
 dT 9 [87] (oL 88 1 87),
 dF 10 [4] (oG 89 3 4),
 dT 11 [89] (oL 90 1 89),
 dF 12 [4] (oG 91 4 4),
 dT 13 [91] (oL 92 1 91),
 dF 14 [84, 86, 88, 90, 92] (oC 93 138 [.u 84, .u 86, .u 88, .u 90, .u 92]),
 dF 15 [93] (oW 78 93),
 dF 16 [78] (oX 94 78 0),
 dF 17 [78] (oX 95 78 1),
 dF 18 [] (oT 6 (.zero [.fsl 1 0 []])),
 dF 19 [6, 94] (oS 1 6 94),
 dF 20 [95] (oV 7 95)]
 (sR [oM 96 0,
 oK 97 1 6,
 oM 98 7,
 oU 99 (.call 131 [.u 96, .u 97, (.c (.fsl 1 0 [])), .u 98]),
 oV 2 99]
 .ret))))))
def r106 : List LRes := [.slot 2]
theorem t106 : trOk Tryz.prog Tryz.f106 (vL [0, 2, 3, 4, 6, 7, 16, 34, 50, 63]) c106 r106 := ⟨by kernel_rfl, by kernel_rfl⟩
def c107 : LCode :=
 sR [oI 2 0]
 (sR [oM 6 0,
 oZ 7 6,
 oF 8 26 7,
 oL 9 1 8,
 oU 10 (.iaS 8 (.u 9) (xI 0)),
 oJ 11 8 10,
 oT 3 (.zero [zI, zI, .str [], zI, zI, .bool false, .bool false, .str []]),
 oS 8 3 11]
 (.seq (sR [oG 12 5 3,
 oL 13 1 12,
 oT 14 (.un .not (.u 13))]
 (cT 14
 (sR [oI 2 2]
 .ret)
 .skip))
 (.seq (sR [oM 15 0,
 oZ 16 15,
 oF 17 19 16,
 oF 18 0 17,
 oT 19 (.load false 1 (.u 18))]
 (.block 0 (sR [oU 21 (.bin .eql (.t 19) (xI 1)),
 oV 20 21]
 (cT 20
 (.seq (sR [oM 22 0,
 oC 23 130 [.u 22, xI 0],
 oW 24 23,
 oO 25 24 (.mov (.t 0)),
 oO 26 24 (.faddr 3 (.t 3)),
 oO 27 24 (.load true 2 (.u 26)),
 oO 28 24 (.call 127 [.u 25, .u 27, xI 1]),
 oO 29 24 (.un .not (.u 28)),
 oQ 30 24 29]
 (cT 30
 (sR [oI 2 13]
 .ret)
 .skip))
 (sD [dF 0 [0] (oM 31 0),
 dF 1 [0] (oM 32 0),
 dF 2 [32] (oZ 33 32),
 dF 3 [33] (oF 34 0 33),
 dF 4 [34] (oF 35 2 34),
 dT 5 [35] (oJ 36 3 35),
 dF 6 [0] (oM 37 0),
 dF 7 [37] (oZ 38 37),
 dF 8 [38] (oF 39 5 38),
 dF 9 [39] (oF 40 0 39),
 dT 10 [40] (oL 41 1 40),
 dF 11 [3] (oG 42 7 3),
 dT 12 [42] (oL 43 1 42),
 dF 13 [3] (oG 44 2 3),
 dT 14 [44] (oL 45 1 44),
 dF 15 [36, 41, 43, 45] (oC 46 52 [.u 36, .u 41, .u 43, .u 45]),
 dF 16 [46] (oX 47 46 0),
 dF 17 [46] (oX 48 46 1),
 dF 18 [31, 47, 48] (oC 49 129 [.u 31, .u 47, .u 48]),
 dF 19 [49] (oV 2 49)]
 .ret))
 (sR [oU 51 (.bin .eql (.t 19) (xI 16)),
 oV 50 51]
 (cT 50
 (.seq (sR [oM 52 0,
 oC 53 130 [.u 52, xI 0],
 oT 54 (.un .not (.u 53))]
 (cT 54
 (sR [oI 2 20]
 .ret)
 .skip))
 (.seq (sR [oM 55 0,
 oG 56 3 3,
 oJ 57 2 56,
 oC 58 127 [.u 55, .u 57, xI 1],
 oT 59 (.un .not (.u 58))]
 (cT 59
 (sR [oI 2 13]
 .ret)
 .skip))
 (sD [dF 0 [0] (oM 60 0),
 dF 1 [0] (oM 61 0),
 dF 2 [61] (oZ 62 61),
 dF 3 [62] (oF 63 0 62),
 dF 4 [63] (oF 64 2 63),
 dT 5 [64] (oJ 65 3 64),
 dF 6 [0] (oM 66 0),
 dF 7 [66] (oZ 67 66),
 dF 8 [67] (oF 68 5 67),
 dF 9 [68] (oF 69 0 68),
 dT 10 [69] (oL 70 1 69),
 dF 11 [3] (oG 71 3 3),
 dT 12 [71] (oJ 72 2 71),
 dF 13 [65, 70, 72] (oC 73 50 [.u 65, .u 70, .u 72]),
 dF 14 [73] (oX 74 73 0),
 dF 15 [73] (oX 75 73 1),
 dF 16 [60, 74, 75] (oC 76 129 [.u 60, .u 74, .u 75]),
 dF 17 [76] (oV 2 76)]
 .ret)))
 (sR [oU 78 (.bin .eql (.t 19) (xI 17)),
 oV 77 78]
 (cT 77
 (.seq (sR [oM 79 0,
 oC 80 130 [.u 79, xI 0],
 oT 81 (.un .not (.u 80))]
 (cT 81
 (sR [oI 2 20]
 .ret)
 .skip))
 (sD [dF 0 [0] (oM 83 0),
 dF 1 [83] (oZ 84 83),
 dF 2 [84] (oF 85 0 84),
 dF 3 [85] (oF 86 0 85),
 dT 4 [86] (oJ 87 2 86),
 dF 5 [0] (oM 88 0),
 dF 6 [88] (oZ 89 88),
 dF 7 [89] (oF 90 19 89),
 dF 8 [90] (oF 91 1 90),
 dF 9 [91] (oU 92 (.iaA 4 1 (.u 91) (xI 0))),
 dT 10 [92] (oL 93 1 92),
 dF 11 [3] (oG 94 3 3),
 dT 12 [94] (oJ 95 2 94),
 dF 13 [87, 93, 95] (oC 96 139 [.u 87, .u 93, .u 95]),
 dF 14 [96] (oW 82 96),
 dF 15 [82] (oX 97 82 0),
 dF 16 [82] (oX 98 82 1),
 dF 17 [] (oT 4 (.zero [.fsl 1 0 [], .fsl 1 0 []])),
 dF 18 [4, 97] (oS 2 4 97),
 dF 19 [98] (oV 5 98)]
 (.seq (sR [oM 99 5,
 oT 100 (.bin .eql (.u 99) (xI 0))]
 (cT 100
 (.region [oM 101 0,
 oK 102 2 4,
 oZ 103 101,
 oF 104 0 103,
 oF 105 0 104,
 oR 2 105 102])
 .skip))
 (sR [oM 106 5,
 oV 2 106]
 .ret))))
 .skip))))))))
 (.seq (sR [oM 107 0,
 oT 108 (.call 130 [.u 107, xI 0])]
 (cT 108
 (sR [oI 2 21]
 .ret)
 .skip))
 (.seq (sR [oM 109 0,
 oG 110 3 3,
 oJ 111 2 110,
 oC 112 127 [.u 109, .u 111, xI 2],
 oT 113 (.un .not (.u 112))]
 (cT 113
 (sR [oI 2 13]
 .ret)
 .skip))
 (sR [oI 2 0]
 .ret))))))
def r107 : List LRes := [.slot 2]
theorem t107 : trOk Tryz.prog Tryz.f107 (vL [0, 2, 3, 4, 5, 14, 19, 20, 30, 50, 54, 59, 77, 81, 100, 108, 113]) c107 r107 := ⟨by kernel_rfl, by kernel_rfl⟩
def c108 : LCode :=
 sR [oI 2 0]
 (sR [oM 4 0,
 oZ 5 4,
 oF 6 26 5,
 oL 7 1 6,
 oU 8 (.iaS 8 (.u 7) (xI 0)),
 oJ 9 8 8,
 oT 3 (.zero [zI, zI, .str [], zI, zI, .bool false, .bool false, .str []]),
 oS 8 3 9]
 (.seq (.block 0 (sR [oG 11 5 3,
 oL 12 1 11,
 oV 10 12]
 (cT 10
 (sR [oI 2 17]
 .ret)
 (sR [oG 14 6 3,
 oL 15 1 14,
 oW 16 15,
 oY 17 16 (.mov (.t 0)),
 oY 18 16 (.nilc (.u 17)),
 oY 19 16 (.faddr 19 (.u 18)),
 oY 20 16 (.faddr 0 (.u 19)),
 oY 21 16 (.load false 1 (.u 20)),
 oY 22 16 (.bin .eql (.u 21) (xI 9)),
 oU 23 (.pick (.u 16) (.u 22) (.c (.bool false))),
 oV 13 23]
 (cT 13
 (sR [oI 2 2]
 .ret)
 (sR [oM 25 0,
 oG 26 0 3,
 oJ 27 2 26,
 oC 28 127 [.u 25, .u 27, xI 2],
 oU 29 (.un .not (.u 28)),
 oV 24 29]
 (cT 24
 (sR [oI 2 13]
 .ret)
 .skip)))))))
 (.seq (sR [oM 30 0,
 oZ 31 30,
 oF 32 19 31,
 oF 33 0 32,
 oL 34 1 33,
 oT 35 (.bin .eql (.u 34) (xI 9))]
 (cT 35
 (sR [oM 36 0,
 oM 37 0,
 oZ 38 37,
 oF 39 19 38,
 oF 40 6 39,
 oL 41 1 40,
 oU 42 (.iaS 1 (.u 41) (xI 0)),
 oL 43 1 42,
 oU 44 (.build [zI, zI, zI, zI, zI, zI, .str [], .fsl 1 0 []] [(1, 1, xI 3), (2, 1, xI 511), (6, 1, .u 43)]),
 oC 45 128 [.u 36, xI 0, .u 44],
 oV 2 45]
 .ret)
 .skip))
 (sR [oM 46 0,
 oM 47 0,
 oZ 48 47,
 oF 49 19 48,
 oF 50 1 49,
 oU 51 (.iaA 4 1 (.u 50) (xI 0)),
 oL 52 1 51,
 oU 53 (.build [zI, zI, zI, zI, zI, zI, .str [], .fsl 1 0 []] [(1, 1, xI 2), (2, 1, .u 52)]),
 oC 54 128 [.u 46, xI 0, .u 53],
 oV 2 54]
 .ret))))
def r108 : List LRes := [.slot 2]
theorem t108 : trOk Tryz.prog Tryz.f108 (vL [0, 2, 3, 10, 13, 24, 35]) c108 r108 := ⟨by kernel_rfl, by kernel_rfl⟩
def c109 : LCode :=
 sR [oI 2 0]
 (sD [dF 0 [0] (oM 9 0),
 dF 1 [9] (oZ 10 9),
 dF 2 [10] (oF 11 0 10),
 dF 3 [11] (oF 12 2 11),
 dT 4 [12] (oJ 13 3 12),
 dF 5 [0] (oM 14 0),
 dF 6 [14] (oZ 15 14),
 dF 7 [15] (oF 16 5 15),
 dF 8 [16] (oF 17 0 16),
 dT 9 [17] (oL 18 1 17),
 dF 10 [0] (oM 19 0),
 dF 11 [19] (oZ 20 19),
 dF 12 [20] (oF 21 19 20),
 dF 13 [21] (oF 22 1 21),
 dT 14 [22] (oJ 23 4 22),
 ⟨15, [], false, [14, 9, 4], oT 3 (.zero [zI, zI, .fsl 1 0 []])⟩,
 ⟨16, [], false, [14, 9, 4], oT 5 (.zero [zI, zI, zI, zI])⟩,
 ⟨17, [3, 13], false, [14, 9], oS 3 3 13⟩,
 dF 18 [18] (oV 4 18),
 dF 19 [5, 23] (oS 4 5 23)]
 (.seq (sR [oM 24 0,
 oZ 25 24,
 oF 26 19 25,
 oF 27 0 26,
 oT 28 (.load false 1 (.u 27))]
 (.block 0 (sR [oU 30 (.bin .eql (.t 28) (xI 0)),
 oV 29 30]
 (cT 29
 (sR [oK 32 3 3,
 oM 33 4,
 oC 34 37 [.u 32, .u 33],
 oW 31 34,
 oX 35 31 0,
 oX 36 31 1,
 oX 37 31 2,
 oT 6 (.zero [zI, zI, .fsl 1 0 []]),
 oS 3 6 35,
 oV 7 36,
 oV 8 37]
 (sR [oM 38 0,
 oM 39 0,
 oM 40 7,
 oM 41 7,
 oZ 42 38,
 oF 43 27 42,
 oF 44 0 43,
 oR 1 44 40,
 oZ 45 39,
 oF 46 27 45,
 oF 47 1 46,
 oR 1 47 41]
 (sR [oM 48 0,
 oK 49 3 6,
 oM 50 8,
 oC 51 129 [.u 48, .u 49, .u 50],
 oV 2 51]
 .ret)))
 (sR [oU 53 (.bin .eql (.t 28) (xI 2)),
 oV 52 53]
 (cT 52
 (sR [oM 54 0,
 oK 55 3 3,
 oM 56 4,
 oC 57 38 [.u 55, .u 56],
 oX 58 57 0,
 oX 59 57 1,
 oC 60 129 [.u 54, .u 58, .u 59],
 oV 2 60]
 .ret)
 (sR [oU 62 (.bin .eql (.t 28) (xI 3)),
 oV 61 62]
 (cT 61
 (sR [oM 63 0,
 oK 64 3 3,
 oM 65 4,
 oU 66 (.iaA 4 1 (.t 5) (xI 0)),
 oL 67 1 66,
 oC 68 39 [.u 64, .u 65, .u 67],
 oX 69 68 0,
 oX 70 68 1,
 oC 71 129 [.u 63, .u 69, .u 70],
 oV 2 71]
 .ret)
 (sR [oU 73 (.bin .eql (.t 28) (xI 4)),
 oV 72 73]
 (cT 72
 (sR [oM 74 0,
 oK 75 3 3,
 oM 76 4,
 oU 77 (.iaA 4 1 (.t 5) (xI 0)),
 oL 78 1 77,
 oC 79 41 [.u 75, .u 76, .u 78],
 oX 80 79 0,
 oX 81 79 1,
 oC 82 129 [.u 74, .u 80, .u 81],
 oV 2 82]
 .ret)
 (sR [oU 84 (.bin .eql (.t 28) (xI 5)),
 oV 83 84]
 (cT 83
 (sR [oM 85 0,
 oK 86 3 3,
 oM 87 4,
 oU 88 (.iaA 4 1 (.t 5) (xI 0)),
 oL 89 1 88,
 oC 90 43 [.u 86, .u 87, .u 89],
 oX 91 90 0,
 oX 92 90 1,
 oC 93 129 [.u 85, .u 91, .u 92],
 oV 2 93]
 .ret)
 (sR [oU 95 (.bin .eql (.t 28) (xI 7)),
 oV 94 95]
 (cT 94
 (sR [oM 96 0,
 oK 97 3 3,
 oM 98 4,
 oU 99 (.iaA 4 1 (.t 5) (xI 0)),
 oL 100 1 99,
 oC 101 47 [.u 97, .u 98, .u 100],
 oX 102 101 0,
 oX 103 101 1,
 oC 104 129 [.u 96, .u 102, .u 103],
 oV 2 104]
 .ret)
 (sR [oU 106 (.bin .eql (.t 28) (xI 18)),
 oV 105 106]
 (cT 105
 (sR [oM 107 0,
 oC 108 140 [.u 107],
 oV 2 108]
 .ret)
 (sR [oU 110 (.bin .eql (.t 28) (xI 19)),
 oV 109 110]
 (cT 109
 (.seq (sR [oU 111 (.iaA 4 1 (.t 5) (xI 0)),
 oL 112 1 111,
 oU 113 (.bin .lss (.u 112) (xI 0)),
 oW 114 113,
 oO 115 114 (.iaA 4 1 (.t 5) (xI 0)),
 oO 116 114 (.load false 1 (.u 115)),
 oO 117 114 (.bin .gtr (.u 116) (xI 65535)),
 oH 118 114 117,
 oW 119 118,
 oO 120 119 (.mov (.t 0)),
 oO 121 119 (.nilc (.u 120)),
 oO 122 119 (.faddr 19 (.u 121)),
 oO 123 119 (.faddr 6 (.u 122)),
 oO 124 119 (.load false 1 (.u 123)),
 oO 125 119 (.iaS 1 (.u 124) (xI 0)),
 oO 126 119 (.load false 1 (.u 125)),
 oO 127 119 (.bin .eql (.u 126) (.c (.str []))),
 oQ 128 119 127]
 (cT 128
 (sR [oI 2 22]
 .ret)
 .skip))
 (.seq (sR [oU 129 (.iaA 4 1 (.t 5) (xI 0)),
 oL 130 1 129,
 oT 131 (.bin .eql (.u 130) (xI 0))]
 (cT 131
 (sR [oI 2 111]
 .ret)
 .skip))
 (sR [oI 2 0]
 .ret)))
 .skip))))))))))))))))))
 (.seq (sR [oU 132 (.iaA 4 1 (.t 5) (xI 1)),
 oL 133 1 132,
 oU 134 (.bin .lss (.u 133) (xI 0)),
 oW 135 134,
 oO 136 135 (.iaA 4 1 (.t 5) (xI 1)),
 oO 137 135 (.load false 1 (.u 136)),
 oO 138 135 (.bin .gtr (.u 137) (xI 64)),
 oQ 139 135 138]
 (cT 139
 (sR [oI 2 22]
 .ret)
 .skip))
 (sR [oM 140 0,
 oK 141 3 3,
 oM 142 4,
 oU 143 (.iaA 4 1 (.t 5) (xI 0)),
 oL 144 1 143,
 oU 145 (.iaA 4 1 (.t 5) (xI 1)),
 oL 146 1 145,
 oU 147 (.bin .neq (.u 146) (xI 0)),
 oC 148 57 [.u 141, .u 142, .u 144, .u 147],
 oX 149 148 0,
 oX 150 148 1,
 oC 151 129 [.u 140, .u 149, .u 150],
 oV 2 151]
 .ret))))
def r109 : List LRes := [.slot 2]
theorem t109 : trOk Tryz.prog Tryz.f109 (vL [0, 2, 3, 4, 5, 6, 7, 8, 28, 29, 52, 61, 72, 83, 94, 105, 109, 128, 131, 139]) c109 r109 := ⟨by kernel_rfl, by kernel_rfl⟩
def c114 : LCode :=
 sR [oB 1 0,
 oT 2 (.zero [.fsl 1 0 []])]
 (sR [oT 3 (.zero [.fsl 1 0 []])]
 (.seq (sR [oI 4 0]
 (.block 0 (.loop (.seq (sR [oM 8 4,
 oG 9 0 1,
 oL 10 1 9,
 oU 11 (.lenL (.u 10)),
 oT 12 (.bin .lss (.u 8) (.u 11))]
 (cT 12
 .skip
 (.exit 0)))
 (.seq (.block 1 (sR [oG 15 0 1,
 oL 16 1 15,
 oM 17 4,
 oA 18 2 16 17,
 oF 19 0 18,
 oL 20 1 19,
 oU 21 (.build [zI, .fsl 1 0 []] [(0, 1, .u 20)]),
 oT 5 (.zero [zI, .fsl 1 0 []]),
 oS 2 5 21]
 (.seq (sR [oI 6 0]
 (.block 2 (.loop (.seq (sR [oM 22 6,
 oG 23 0 1,
 oL 24 1 23,
 oM 25 4,
 oA 26 2 24 25,
 oF 27 1 26,
 oL 28 1 27,
 oU 29 (.lenL (.u 28)),
 oT 30 (.bin .lss (.u 22) (.u 29))]
 (cT 30
 .skip
 (.exit 2)))
 (.seq (.block 3 (sR [oG 33 0 1,
 oL 34 1 33,
 oM 35 4,
 oA 36 2 34 35,
 oF 37 1 36,
 oL 38 1 37,
 oM 39 6,
 oA 40 8 38 39,
 oJ 41 8 40,
 oT 7 (.zero [zI, zI, zI, zI, zI, zI, .str [], .fsl 1 0 []]),
 oS 8 7 41]
 (sR [oG 42 7 7,
 oL 43 1 42,
 oU 44 (.app 2 24 (.c (.fsl 1 0 [])) (.u 43)),
 oG 45 7 7,
 oR 1 45 44]
 (.region [oG 46 1 5,
 oL 47 1 46,
 oK 48 8 7,
 oU 49 (.mkS 8 1 [zI, zI, zI, zI, zI, zI, .str [], .fsl 1 0 []] [(0, 8, .u 48)]),
 oU 50 (.app 8 88 (.u 47) (.u 49)),
 oG 51 1 5,
 oR 1 51 50]))))
 (.region [oM 31 6,
 oU 32 (.bin .add (.u 31) (xI 1)),
 oV 6 32]))))))
 (.region [oG 52 0 3,
 oL 53 1 52,
 oK 54 2 5,
 oU 55 (.mkS 2 1 [zI, .fsl 1 0 []] [(0, 2, .u 54)]),
 oU 56 (.app 2 32 (.u 53) (.u 55)),
 oG 57 0 3,
 oR 1 57 56]))))
 (.region [oM 13 4,
 oU 14 (.bin .add (.u 13) (xI 1)),
 oV 4 14]))))))
 (sR [oK 58 1 3,
 oS 1 2 58]
 .ret)))
def r114 : List LRes := [.cell true 1 2]
theorem t114 : trOk Tryz.prog Tryz.f114 (vL [0, 1, 2, 3, 4, 5, 6, 7, 12, 30]) c114 r114 := ⟨by kernel_rfl, by kernel_rfl⟩
def c117 : LCode :=
 sR [oT 2 (.mov (.c (.fsl 1 0 []))),
 oP 3 false,
 oP 4 false]
 (sR [oT 5 (.mov (.c (.fsl 1 0 [])))]
 (sR [oI 6 0]
 (.seq (sR [oI 7 0]
 (.block 0 (.loop (.seq (sR [oM 8 7,
 oM 9 0,
 oU 10 (.len (.u 9)),
 oT 11 (.bin .leq (.u 8) (.u 10))]
 (cT 11
 .skip
 (.exit 0)))
 (.seq (.block 1 (sR [oM 14 7,
 oM 15 0,
 oU 16 (.len (.u 15)),
 oU 17 (.bin .eql (.u 14) (.u 16)),
 oW 18 17,
 oO 19 18 (.mov (.t 0)),
 oO 20 18 (.mov (.t 7)),
 oO 21 18 (.ixS (.u 19) (.u 20)),
 oO 22 18 (.bin .eql (.u 21) (.c (.int .u8 47))),
 oQ 23 18 22]
 (cT 23
 (.seq (sR [oM 24 7,
 oM 25 6,
 oT 26 (.bin .gtr (.u 24) (.u 25))]
 (cT 26
 (.region [oM 27 5,
 oM 28 0,
 oM 29 6,
 oM 30 7,
 oU 31 (.slS (.u 28) (some (.u 29)) (some (.u 30))),
 oU 32 (.mkS 1 1 [.str []] [(0, 1, .u 31)]),
 oU 33 (.app 1 16 (.u 27) (.u 32)),
 oV 5 33])
 .skip))
 (.region [oM 34 7,
 oU 35 (.bin .add (.u 34) (xI 1)),
 oV 6 35]))
 .skip)))
 (.region [oM 12 7,
 oU 13 (.bin .add (.u 12) (xI 1)),
 oV 7 13]))))))
 (sD [dF 0 [5] (oM 36 5),
 dF 1 [0] (oM 37 0),
 dF 2 [37] (oU 38 (.len (.u 37))),
 dF 3 [38] (oU 39 (.bin .gtr (.u 38) (xI 0))),
 dF 4 [39] (oW 40 39),
 dF 5 [0, 40] (oY 41 40 (.mov (.t 0))),
 dF 6 [41, 40] (oY 42 40 (.ixS (.u 41) (xI 0))),
 dF 7 [42, 40] (oY 43 40 (.bin .eql (.u 42) (.c (.int .u8 47)))),
 dF 8 [40, 43] (oU 44 (.pick (.u 40) (.u 43) (.c (.bool false)))),
 dF 9 [0] (oM 45 0),
 dF 10 [45] (oU 46 (.len (.u 45))),
 dF 11 [46] (oU 47 (.bin .gtr (.u 46) (xI 0))),
 dF 12 [47] (oW 48 47),
 dF 13 [0, 48] (oY 49 48 (.mov (.t 0))),
 dF 14 [0, 48] (oY 50 48 (.mov (.t 0))),
 dF 15 [50, 48] (oY 51 48 (.len (.u 50))),
 dF 16 [51, 48] (oY 52 48 (.bin .sub (.u 51) (xI 1))),
 dF 17 [49, 52, 48] (oY 53 48 (.ixS (.u 49) (.u 52))),
 dF 18 [53, 48] (oY 54 48 (.bin .eql (.u 53) (.c (.int .u8 47)))),
 dF 19 [48, 54] (oU 55 (.pick (.u 48) (.u 54) (.c (.bool false)))),
 dF 20 [36] (oV 2 36),
 dF 21 [44] (oV 3 44),
 dF 22 [55] (oV 4 55)]
 .ret))))
def r117 : List LRes := [.slot 2, .slot 3, .slot 4]
theorem t117 : trOk Tryz.prog Tryz.f117 (vL [0, 2, 3, 4, 5, 6, 7, 11, 23, 26]) c117 r117 := ⟨by kernel_rfl, by kernel_rfl⟩
def c118 : LCode :=
 sR [oB 1 0,
 oT 2 (.zero [zI, zI])]
 (sR [oK 3 2 1,
 oU 4 (.build [zI, zI] [(1, 1, xI 1)]),
 oC 5 120 [.u 3, .u 4],
 oS 2 2 5]
 .ret)
def r118 : List LRes := [.cell true 2 2]
theorem t118 : trOk Tryz.prog Tryz.f118 (vL [0, 1, 2]) c118 r118 := ⟨by kernel_rfl, by kernel_rfl⟩
def c119 : LCode :=
 sR [oB 2 0,
 oB 3 1,
 oP 4 false]
 (sR [oK 8 1 2,
 oK 9 2 3,
 oC 10 124 [.u 8, .u 9],
 oW 7 10,
 oX 11 7 0,
 oX 12 7 1,
 oT 5 (.zero [zI, zI, zI, zI, zI, zI, .str [], .fsl 1 0 []]),
 oS 8 5 11,
 oV 6 12]
 (sR [oM 13 6,
 oW 14 13,
 oY 15 14 (.faddr 1 (.t 5)),
 oY 16 14 (.load false 1 (.u 15)),
 oY 17 14 (.bin .eql (.u 16) (xI 2)),
 oU 18 (.pick (.u 14) (.u 17) (.c (.bool false))),
 oV 4 18]
 .ret))
def r119 : List LRes := [.slot 4]
theorem t119 : trOk Tryz.prog Tryz.f119 (vL [0, 1, 2, 3, 4, 5, 6]) c119 r119 := ⟨by kernel_rfl, by kernel_rfl⟩
def c120 : LCode :=
 sR [oB 2 0,
 oB 3 1,
 oT 4 (.zero [zI, zI])]
 (.seq (sR [oI 5 0]
 (.block 0 (.loop (.seq (sR [oM 8 5,
 oG 9 1 2,
 oL 10 1 9,
 oU 11 (.lenL (.u 10)),
 oT 12 (.bin .leq (.u 8) (.u 11))]
 (cT 12
 .skip
 (.exit 0)))
 (.seq (.block 1 (sR [oK 16 2 2,
 oK 17 2 3,
 oC 18 142 [.u 16, .u 17],
 oW 15 18,
 oX 19 15 0,
 oX 20 15 1,
 oV 6 19,
 oV 7 20]
 (sR [oT 21 (.mov (.t 7))]
 (cT 21
 (.region [oM 22 6,
 oU 23 (.build [zI, zI] [(0, 1, .u 22), (1, 1, xI 1)]),
 oS 2 3 23])
 .skip))))
 (.region [oM 13 5,
 oU 14 (.bin .add (.u 13) (xI 1)),
 oV 5 14]))))))
 (sR [oK 24 2 3,
 oS 2 4 24]
 .ret))
def r120 : List LRes := [.cell true 2 4]
theorem t120 : trOk Tryz.prog Tryz.f120 (vL [0, 1, 2, 3, 4, 5, 6, 7, 12, 21]) c120 r120 := ⟨by kernel_rfl, by kernel_rfl⟩
def c121 : LCode :=
 sR [oB 2 0,
 oB 3 1,
 oT 4 (.zero [zI, zI])]
 (sR [oG 10 0 2,
 oJ 11 1 10,
 oK 12 2 3,
 oC 13 124 [.u 11, .u 12],
 oW 9 13,
 oX 14 9 0,
 oX 15 9 1,
 oT 5 (.zero [zI, zI, zI, zI, zI, zI, .str [], .fsl 1 0 []]),
 oS 8 5 14,
 oV 6 15]
 (.seq (sR [oM 16 6,
 oU 17 (.un .not (.u 16)),
 oW 18 17,
 oO 19 18 (.faddr 1 (.t 5)),
 oO 20 18 (.load false 1 (.u 19)),
 oO 21 18 (.bin .neq (.u 20) (xI 2)),
 oQ 22 18 21]
 (cT 22
 (sR [oU 23 (.build [zI, zI] []),
 oS 2 4 23]
 .ret)
 .skip))
 (.seq (sR [oG 24 1 3,
 oL 25 1 24,
 oT 26 (.bin .neq (.u 25) (xI 1))]
 (cT 26
 (sR [oG 27 0 3,
 oL 28 1 27,
 oG 29 5 5,
 oL 30 1 29,
 oU 31 (.build [zI, zI] [(0, 1, .u 28), (1, 1, .u 30)]),
 oS 2 4 31]
 .ret)
 .skip))
 (.seq (sR [oK 33 2 2,
 oG 34 0 3,
 oL 35 1 34,
 oC 36 143 [.u 33, .u 35],
 oW 32 36,
 oX 37 32 0,
 oX 38 32 1,
 oT 7 (.zero [zI, zI]),
 oS 2 7 37,
 oV 8 38]
 (sR [oT 39 (.mov (.t 8))]
 (cT 39
 (sR [oK 40 2 2,
 oK 41 2 7,
 oC 42 121 [.u 40, .u 41],
 oS 2 4 42]
 .ret)
 .skip)))
 (sR [oK 43 2 3,
 oS 2 4 43]
 .ret)))))
def r121 : List LRes := [.cell true 2 4]
theorem t121 : trOk Tryz.prog Tryz.f121 (vL [0, 1, 2, 3, 4, 5, 6, 7, 8, 22, 26, 39]) c121 r121 := ⟨by kernel_rfl, by kernel_rfl⟩
def c122 : LCode :=
 sR [oB 3 0,
 oB 4 1,
 oT 6 (.zero [zI, zI]),
 oI 7 0]
 (sR [oK 12 1 3,
 oK 13 2 4,
 oC 14 124 [.u 12, .u 13],
 oW 11 14,
 oX 15 11 0,
 oX 16 11 1,
 oT 8 (.zero [zI, zI, zI, zI, zI, zI, .str [], .fsl 1 0 []]),
 oS 8 8 15,
 oV 9 16]
 (.seq (sR [oM 17 9,
 oT 18 (.un .not (.u 17))]
 (cT 18
 (sR [oU 19 (.build [zI, zI] []),
 oS 2 6 19,
 oI 7 2]
 .ret)
 .skip))
 (.seq (sR [oG 20 1 8,
 oL 21 1 20,
 oT 22 (.bin .neq (.u 21) (xI 2))]
 (cT 22
 (sR [oU 23 (.build [zI, zI] []),
 oS 2 6 23,
 oI 7 20]
 .ret)
 .skip))
 (.seq (sR [oI 10 0]
 (.block 0 (.loop (.seq (sR [oM 24 10,
 oG 25 7 8,
 oL 26 1 25,
 oU 27 (.lenL (.u 26)),
 oT 28 (.bin .lss (.u 24) (.u 27))]
 (cT 28
 .skip
 (.exit 0)))
 (.seq (.block 1 (sR [oG 31 7 8,
 oL 32 1 31,
 oM 33 10,
 oA 34 2 32 33,
 oF 35 0 34,
 oL 36 1 35,
 oM 37 2,
 oT 38 (.bin .eql (.u 36) (.u 37))]
 (cT 38
 (sD [dF 0 [4] (oG 39 0 4),
 dT 1 [39] (oL 40 1 39),
 dF 2 [8] (oG 41 7 8),
 dT 3 [41] (oL 42 1 41),
 dF 4 [10] (oM 43 10),
 dF 5 [42, 43] (oA 44 2 42 43),
 dF 6 [44] (oF 45 1 44),
 dT 7 [45] (oL 46 1 45),
 dF 8 [40, 46] (oU 47 (.build [zI, zI] [(0, 1, .u 40), (1, 1, .u 46)])),
 dF 9 [6, 47] (oS 2 6 47),
 dF 10 [] (oI 7 0)]
 .ret)
 .skip)))
 (.region [oM 29 10,
 oU 30 (.bin .add (.u 29) (xI 1)),
 oV 10 30]))))))
 (sR [oU 48 (.build [zI, zI] []),
 oS 2 6 48,
 oI 7 2]
 .ret)))))
def r122 : List LRes := [.cell true 2 6, .slot 7]
theorem t122 : trOk Tryz.prog Tryz.f122 (vL [0, 1, 2, 3, 4, 6, 7, 8, 9, 10, 18, 22, 28, 38]) c122 r122 := ⟨by kernel_rfl, by kernel_rfl⟩
def c123 : LCode :=
 sR [oP 2 false]
 (.seq (sR [oM 4 0,
 oU 5 (.len (.u 4)),
 oU 6 (.bin .lss (.u 5) (xI 1)),
 oW 7 6,
 oO 8 7 (.mov (.t 0)),
 oO 9 7 (.len (.u 8)),
 oO 10 7 (.bin .gtr (.u 9) (xI 12)),
 oH 11 7 10,
 oW 12 11,
 oO 13 12 (.mov (.t 0)),
 oO 14 12 (.bin .eql (.u 13) (.c (.str [46]))),
 oH 15 12 14,
 oW 16 15,
 oO 17 16 (.mov (.t 0)),
 oO 18 16 (.bin .eql (.u 17) (.c (.str [46, 46]))),
 oQ 19 16 18]
 (cT 19
 (sR [oP 2 false]
 .ret)
 .skip))
 (.seq (sR [oI 3 0]
 (.block 0 (.loop (.seq (sR [oM 20 3,
 oM 21 0,
 oU 22 (.len (.u 21)),
 oT 23 (.bin .lss (.u 20) (.u 22))]
 (cT 23
 .skip
 (.exit 0)))
 (.seq (.block 1 (sR [oM 26 0,
 oM 27 3,
 oU 28 (.ixS (.u 26) (.u 27)),
 oU 29 (.bin .eql (.u 28) (.c (.int .u8 0))),
 oW 30 29,
 oO 31 30 (.mov (.t 0)),
 oO 32 30 (.mov (.t 3)),
 oO 33 30 (.ixS (.u 31) (.u 32)),
 oO 34 30 (.bin .eql (.u 33) (.c (.int .u8 47))),
 oQ 35 30 34]
 (cT 35
 (sR [oP 2 false]
 .ret)
 .skip)))
 (.region [oM 24 3,
 oU 25 (.bin .add (.u 24) (xI 1)),
 oV 3 25]))))))
 (sR [oP 2 true]
 .ret)))
def r123 : List LRes := [.slot 2]
theorem t123 : trOk Tryz.prog Tryz.f123 (vL [0, 2, 3, 19, 23, 35]) c123 r123 := ⟨by kernel_rfl, by kernel_rfl⟩
def c124 : LCode :=
 sR [oB 2 0,
 oB 3 1,
 oT 4 (.zero [zI, zI, zI, zI, zI, zI, .str [], .fsl 1 0 []]),
 oP 5 false]
 (sR [oK 8 1 2,
 oK 9 2 3,
 oC 10 144 [.u 8, .u 9],
 oV 6 10]
 (.seq (sR [oM 11 6,
 oT 12 (.bin .lss (.u 11) (xI 0))]
 (cT 12
 (sR [oU 13 (.build [zI, zI, zI, zI, zI, zI, .str [], .fsl 1 0 []] []),
 oS 8 4 13,
 oP 5 false]
 .ret)
 .skip))
 (sR [oG 14 0 2,
 oL 15 1 14,
 oG 16 0 3,
 oL 17 1 16,
 oA 18 2 15 17,
 oF 19 1 18,
 oL 20 1 19,
 oM 21 6,
 oA 22 8 20 21,
 oJ 23 8 22,
 oT 7 (.zero [zI, zI, zI, zI, zI, zI, .str [], .fsl 1 0 []]),
 oS 8 7 23]
 (sR [oG 24 7 7,
 oL 25 1 24,
 oU 26 (.app 2 24 (.c (.fsl 1 0 [])) (.u 25)),
 oG 27 7 7,
 oR 1 27 26]
 (sR [oK 28 8 7,
 oS 8 4 28,
 oP 5 true]
 .ret)))))
def r124 : List LRes := [.cell true 8 4, .slot 5]
theorem t124 : trOk Tryz.prog Tryz.f124 (vL [0, 1, 2, 3, 4, 5, 6, 7, 12]) c124 r124 := ⟨by kernel_rfl, by kernel_rfl⟩
def c125 : LCode :=
 sR [oB 2 0,
 oB 3 1,
 oT 4 (.mov (.c (.str []))),
 oP 5 false]
 (.seq (sR [oG 12 0 2,
 oJ 13 1 12,
 oK 14 2 3,
 oC 15 119 [.u 13, .u 14],
 oU 16 (.un .not (.u 15)),
 oW 17 16,
 oO 18 17 (.load true 2 (.t 2)),
 oO 19 17 (.faddr 0 (.t 3)),
 oO 20 17 (.load false 1 (.u 19)),
 oO 21 17 (.call 145 [.u 18, .u 20]),
 oO 22 17 (.un .not (.u 21)),
 oQ 23 17 22]
 (cT 23
 (sR [oT 4 (.mov (.c (.str []))),
 oP 5 false]
 .ret)
 .skip))
 (.seq (sR [oG 24 1 3,
 oL 25 1 24,
 oT 26 (.bin .eql (.u 25) (xI 1))]
 (cT 26
 (.seq (sR [oK 28 2 2,
 oG 29 0 3,
 oL 30 1 29,
 oC 31 143 [.u 28, .u 30],
 oW 27 31,
 oX 32 27 0,
 oX 33 27 1,
 oT 6 (.zero [zI, zI]),
 oS 2 6 32,
 oV 7 33]
 (sR [oT 34 (.mov (.t 7))]
 (cT 34
 (sR [oK 35 2 2,
 oK 36 2 6,
 oC 37 125 [.u 35, .u 36],
 oX 38 37 0,
 oX 39 37 1,
 oV 4 38,
 oV 5 39]
 .ret)
 .skip)))
 (sR [oT 4 (.mov (.c (.str [47]))),
 oP 5 true]
 .ret))
 .skip))
 (sR [oG 41 0 2,
 oJ 42 1 41,
 oK 43 2 3,
 oC 44 124 [.u 42, .u 43],
 oW 40 44,
 oX 45 40 0,
 oX 46 40 1,
 oT 8 (.zero [zI, zI, zI, zI, zI, zI, .str [], .fsl 1 0 []]),
 oS 8 8 45,
 oW 9 46]
 (sR [oK 48 2 2,
 oG 49 0 3,
 oL 50 1 49,
 oG 51 5 8,
 oL 52 1 51,
 oU 53 (.build [zI, zI] [(0, 1, .u 50), (1, 1, .u 52)]),
 oC 54 125 [.u 48, .u 53],
 oW 47 54,
 oX 55 47 0,
 oX 56 47 1,
 oV 10 55,
 oV 11 56]
 (sR [oM 57 10,
 oG 58 0 2,
 oJ 59 1 58,
 oK 60 2 3,
 oC 61 146 [.u 59, .u 60],
 oC 62 126 [.u 57, .u 61],
 oM 63 11,
 oV 4 62,
 oV 5 63]
 .ret)))))
def r125 : List LRes := [.slot 4, .slot 5]
theorem t125 : trOk Tryz.prog Tryz.f125 (vL [0, 1, 2, 3, 4, 5, 6, 7, 8, 10, 11, 23, 26, 34]) c125 r125 := ⟨by kernel_rfl, by kernel_rfl⟩
def c126 : LCode :=
 sR [oT 4 (.mov (.c (.str [])))]
 (.seq (sR [oM 5 0,
 oU 6 (.len (.u 5)),
 oU 7 (.bin .gtr (.u 6) (xI 0)),
 oW 8 7,
 oY 9 8 (.mov (.t 0)),
 oY 10 8 (.mov (.t 0)),
 oY 11 8 (.len (.u 10)),
 oY 12 8 (.bin .sub (.u 11) (xI 1)),
 oY 13 8 (.ixS (.u 9) (.u 12)),
 oY 14 8 (.bin .eql (.u 13) (.c (.int .u8 47))),
 oT 15 (.pick (.u 8) (.u 14) (.c (.bool false)))]
 (cT 15
 (sR [oM 16 0,
 oM 17 1,
 oU 18 (.bin .add (.u 16) (.u 17)),
 oV 4 18]
 .ret)
 .skip))
 (sR [oM 19 0,
 oU 20 (.bin .add (.u 19) (.c (.str [47]))),
 oM 21 1,
 oU 22 (.bin .add (.u 20) (.u 21)),
 oV 4 22]
 .ret))
def r126 : List LRes := [.slot 4]
theorem t126 : trOk Tryz.prog Tryz.f126 (vL [0, 1, 4, 15]) c126 r126 := ⟨by kernel_rfl, by kernel_rfl⟩
def c127 : LCode :=
 sR [oB 4 1,
 oP 6 false]
 (sD [dF 0 [0] (oM 10 0),
 dF 1 [10] (oZ 11 10),
 dF 2 [11] (oF 12 0 11),
 dF 3 [12] (oF 13 0 12),
 dF 4 [13] (oF 14 0 13),
 dT 5 [14] (oJ 15 1 14),
 dT 6 [4] (oK 16 2 4),
 dF 7 [15, 16] (oC 17 124 [.u 15, .u 16]),
 dF 8 [17] (oW 9 17),
 dF 9 [9] (oX 18 9 0),
 dF 10 [9] (oX 19 9 1),
 dF 11 [] (oT 7 (.zero [zI, zI, zI, zI, zI, zI, .str [], .fsl 1 0 []])),
 dF 12 [7, 18] (oS 8 7 18),
 dF 13 [19] (oW 8 19)]
 (sD [dT 0 [7] (oK 20 8 7),
 dF 1 [0] (oM 21 0),
 dF 2 [21] (oZ 22 21),
 dF 3 [22] (oF 23 5 22),
 dF 4 [23] (oF 24 3 23),
 dT 5 [24] (oL 25 1 24),
 dF 6 [0] (oM 26 0),
 dF 7 [26] (oZ 27 26),
 dF 8 [27] (oF 28 5 27),
 dF 9 [28] (oF 29 5 28),
 dT 10 [29] (oL 30 1 29),
 dF 11 [2] (oM 31 2),
 dF 12 [20, 25, 30, 31] (oC 32 147 [.u 20, .u 25, .u 30, .u 31]),
 dF 13 [32] (oV 6 32)]
 .ret))
def r127 : List LRes := [.slot 6]
theorem t127 : trOk Tryz.prog Tryz.f127 (vL [0, 1, 2, 4, 6, 7]) c127 r127 := ⟨by kernel_rfl, by kernel_rfl⟩
def c128 : LCode :=
 sR [oB 5 2,
 oI 6 0]
 (sD [dF 0 [0] (oM 8 0),
 dF 1 [8] (oZ 9 8),
 dF 2 [9] (oF 10 5 9),
 dF 3 [10] (oF 11 3 10),
 dT 4 [11] (oL 12 1 11),
 dF 5 [0] (oM 13 0),
 dF 6 [13] (oZ 14 13),
 dF 7 [14] (oF 15 5 14),
 dF 8 [15] (oF 16 5 15),
 dT 9 [16] (oL 17 1 16),
 dF 10 [5] (oG 18 3 5),
 ⟨11, [18, 12], false, [9], oR 1 18 12⟩,
 dF 12 [5] (oG 19 4 5),
 dF 13 [19, 17] (oR 1 19 17)]
 (sD [dF 0 [0] (oM 20 0),
 dF 1 [0] (oM 21 0),
 dF 2 [21] (oZ 22 21),
 dF 3 [22] (oF 23 0 22),
 dF 4 [23] (oF 24 0 23),
 dF 5 [24] (oF 25 0 24),
 dT 6 [25] (oJ 26 1 25),
 dF 7 [0] (oM 27 0),
 dF 8 [27] (oZ 28 27),
 dF 9 [28] (oF 29 26 28),
 dT 10 [29] (oL 30 1 29),
 dF 11 [1] (oM 31 1),
 dF 12 [30, 31] (oA 32 8 30 31),
 dF 13 [32] (oF 33 0 32),
 dT 14 [33] (oJ 34 2 33),
 dF 15 [0] (oM 35 0),
 dF 16 [35] (oZ 36 35),
 dF 17 [36] (oF 37 26 36),
 dT 18 [37] (oL 38 1 37),
 dF 19 [1] (oM 39 1),
 dF 20 [38, 39] (oA 40 8 38 39),
 dF 21 [40] (oF 41 2 40),
 dT 22 [41] (oL 42 1 41),
 dT 23 [5] (oK 43 8 5),
 dF 24 [26, 34, 42, 43] (oC 44 148 [.u 26, .u 34, .u 42, .u 43]),
 dF 25 [44] (oX 45 44 0),
 dF 26 [44] (oX 46 44 1),
 dF 27 [44] (oX 47 44 2),
 dF 28 [20, 45, 46, 47] (oC 48 131 [.u 20, .u 45, .u 46, .u 47]),
 dF 29 [48] (oV 7 48)]
 (.seq (sR [oM 49 7,
 oT 50 (.bin .eql (.u 49) (xI 0))]
 (cT 50
 (.region [oM 51 0,
 oM 52 1,
 oM 53 0,
 oZ 54 53,
 oF 55 27 54,
 oF 56 4 55,
 oL 57 1 56,
 oU 58 (.iaS 7 (.u 57) (xI 0)),
 oF 59 5 58,
 oJ 60 2 59,
 oC 61 133 [.u 51, .u 52, .u 60]])
 .skip))
 (sR [oM 62 7,
 oV 6 62]
 .ret))))
def r128 : List LRes := [.slot 6]
theorem t128 : trOk Tryz.prog Tryz.f128 (vL [0, 1, 2, 5, 6, 7, 50]) c128 r128 := ⟨by kernel_rfl, by kernel_rfl⟩
def c129 : LCode :=
 sR [oB 4 1,
 oI 6 0]
 (.seq (sR [oM 7 2,
 oT 8 (.bin .eql (.u 7) (xI 0))]
 (cT 8
 (.region [oM 9 0,
 oK 10 3 4,
 oZ 11 9,
 oF 12 0 11,
 oF 13 2 12,
 oR 3 13 10])
 .skip))
 (sR [oM 14 2,
 oV 6 14]
 .ret))
def r129 : List LRes := [.slot 6]
theorem t129 : trOk Tryz.prog Tryz.f129 (vL [0, 1, 2, 4, 6, 8]) c129 r129 := ⟨by kernel_rfl, by kernel_rfl⟩
def c130 : LCode :=
 sR [oP 4 false]
 (sD [dF 0 [0] (oM 5 0),
 dF 1 [5] (oZ 6 5),
 dF 2 [6] (oF 7 0 6),
 dF 3 [7] (oF 8 0 7),
 dF 4 [8] (oF 9 0 8),
 dT 5 [9] (oJ 10 1 9),
 dF 6 [0] (oM 11 0),
 dF 7 [11] (oZ 12 11),
 dF 8 [12] (oF 13 26 12),
 dT 9 [13] (oL 14 1 13),
 dF 10 [1] (oM 15 1),
 dF 11 [14, 15] (oA 16 8 14 15),
 dF 12 [16] (oF 17 3 16),
 dT 13 [17] (oJ 18 2 17),
 dF 14 [10, 18] (oC 19 119 [.u 10, .u 18]),
 dF 15 [19] (oV 4 19)]
 .ret)
def r130 : List LRes := [.slot 4]
theorem t130 : trOk Tryz.prog Tryz.f130 (vL [0, 1, 4]) c130 r130 := ⟨by kernel_rfl, by kernel_rfl⟩
def c131 : LCode :=
 sR [oB 5 1,
 oI 8 0]
 (.seq (sR [oM 9 3,
 oT 10 (.bin .eql (.u 9) (xI 0))]
 (cT 10
 (sR [oM 11 0,
 oK 12 1 5,
 oZ 13 11,
 oF 14 0 13,
 oF 15 0 14,
 oF 16 0 15,
 oR 1 16 12]
 (.region [oM 17 0,
 oM 18 2,
 oZ 19 17,
 oF 20 27 19,
 oF 21 4 20,
 oR 1 21 18]))
 .skip))
 (sR [oM 22 3,
 oV 8 22]
 .ret))
def r131 : List LRes := [.slot 8]
theorem t131 : trOk Tryz.prog Tryz.f131 (vL [0, 1, 2, 3, 5, 8, 10]) c131 r131 := ⟨by kernel_rfl, by kernel_rfl⟩
def c132 : LCode :=
 sR [oB 4 0,
 oB 5 1,
 oB 7 3,
 oT 8 (.zero [.fsl 1 0 []]),
 oT 9 (.mov (.c (.fsl 1 0 []))),
 oI 10 0]
 (.seq (sR [oK 17 1 4,
 oK 18 2 5,
 oM 19 2,
 oC 20 149 [.u 17, .u 18, .u 19],
 oV 11 20]
 (sR [oM 21 11,
 oT 22 (.bin .neq (.u 21) (xI 0))]
 (cT 22
 (sR [oU 23 (.build [.fsl 1 0 []] []),
 oM 24 11,
 oS 1 8 23,
 oT 9 (.mov (.c (.fsl 1 0 []))),
 oV 10 24]
 .ret)
 .skip)))
 (sR [oK 26 1 4,
 oK 27 2 7,
 oC 28 124 [.u 26, .u 27],
 oW 25 28,
 oX 29 25 0,
 oX 30 25 1,
 oT 12 (.zero [zI, zI, zI, zI, zI, zI, .str [], .fsl 1 0 []]),
 oS 8 12 29,
 oV 13 30]
 (.seq (sR [oM 31 13,
 oT 32 (.un .not (.u 31))]
 (cT 32
 (sR [oU 33 (.build [.fsl 1 0 []] []),
 oS 1 8 33,
 oT 9 (.mov (.c (.fsl 1 0 []))),
 oI 10 2]
 .ret)
 .skip))
 (.seq (sR [oG 34 0 7,
 oL 35 1 34,
 oG 36 0 5,
 oL 37 1 36,
 oT 38 (.bin .neq (.u 35) (.u 37))]
 (cT 38
 (sR [oU 39 (.build [.fsl 1 0 []] []),
 oS 1 8 39,
 oT 9 (.mov (.c (.fsl 1 0 []))),
 oI 10 18]
 .ret)
 .skip))
 (.seq (sR [oG 40 1 12,
 oL 41 1 40,
 oT 42 (.bin .eql (.u 41) (xI 2))]
 (cT 42
 (sR [oU 43 (.build [.fsl 1 0 []] []),
 oS 1 8 43,
 oT 9 (.mov (.c (.fsl 1 0 []))),
 oI 10 1]
 .ret)
 .skip))
 (.seq (sR [oK 45 1 4,
 oK 46 2 5,
 oM 47 2,
 oC 48 122 [.u 45, .u 46, .u 47],
 oW 44 48,
 oX 49 44 0,
 oX 50 44 1,
 oU 14 (.zero [zI, zI]),
 oR 2 14 49,
 oV 15 50]
 (sR [oM 51 15,
 oT 52 (.bin .eql (.u 51) (xI 0))]
 (cT 52
 (sR [oU 53 (.build [.fsl 1 0 []] []),
 oS 1 8 53,
 oT 9 (.mov (.c (.fsl 1 0 []))),
 oI 10 17]
 .ret)
 .skip)))
 (.seq (sR [oK 54 1 4,
 oK 55 2 5,
 oT 56 (.call 150 [.u 54, .u 55])]
 (cT 56
 (sR [oU 57 (.build [.fsl 1 0 []] []),
 oS 1 8 57,
 oT 9 (.mov (.c (.fsl 1 0 []))),
 oI 10 28]
 .ret)
 .skip))
 (sR [oK 58 1 4,
 oC 59 114 [.u 58],
 oT 16 (.zero [.fsl 1 0 []]),
 oS 1 16 59]
 (sR [oK 60 1 16,
 oK 61 2 5,
 oM 62 2,
 oG 63 1 7,
 oL 64 1 63,
 oC 65 151 [.u 60, .u 61, .u 62, .u 64]]
 (sD [dT 0 [16] (oK 66 1 16),
 dT 1 [5] (oK 67 2 5),
 dF 2 [2] (oM 68 2),
 dF 3 [] (oU 69 (.build [zI, zI] [])),
 dT 4 [7] (oK 70 2 7),
 ⟨5, [67, 68, 69, 70], false, [0], oC 71 152 [.u 67, .u 68, .u 69, .u 70]⟩,
 dF 6 [8, 66] (oS 1 8 66),
 dF 7 [71] (oV 9 71),
 dF 8 [] (oI 10 0)]
 .ret))))))))))
def r132 : List LRes := [.cell true 1 8, .slot 9, .slot 10]
theorem t132 : trOk Tryz.prog Tryz.f132 (vL [0, 1, 2, 3, 4, 5, 7, 8, 9, 10, 11, 12, 13, 15, 16, 22, 32, 38, 42, 52, 56]) c132 r132 := ⟨by kernel_rfl, by kernel_rfl⟩
def c133 : LCode :=
 sR [oB 5 2]
 (sD [dF 0 [0] (oM 10 0),
 dF 1 [10] (oZ 11 10),
 dF 2 [11] (oF 12 0 11),
 dF 3 [12] (oF 13 0 12),
 dF 4 [13] (oF 14 0 13),
 dT 5 [14] (oJ 15 1 14),
 dT 6 [5] (oK 16 2 5),
 dF 7 [15, 16] (oC 17 124 [.u 15, .u 16]),
 dF 8 [17] (oW 9 17),
 dF 9 [9] (oX 18 9 0),
 dF 10 [9] (oX 19 9 1),
 dF 11 [] (oT 6 (.zero [zI, zI, zI, zI, zI, zI, .str [], .fsl 1 0 []])),
 dF 12 [6, 18] (oS 8 6 18),
 dF 13 [19] (oW 7 19)]
 (sR [oM 20 0,
 oZ 21 20,
 oF 22 27 21,
 oF 23 3 22,
 oL 24 1 23,
 oM 25 1,
 oA 26 13 24 25,
 oV 8 26]
 (.regionD [dF 0 [8] (oM 27 8),
 dF 1 [8] (oM 28 8),
 dF 2 [8] (oM 29 8),
 dF 3 [8] (oM 30 8),
 dF 4 [8] (oM 31 8),
 dF 5 [8] (oM 32 8),
 dT 6 [5] (oK 33 2 5),
 dF 7 [6] (oG 34 1 6),
 dT 8 [34] (oL 35 1 34),
 dF 9 [6] (oG 36 2 6),
 dT 10 [36] (oL 37 1 36),
 dF 11 [6] (oG 38 3 6),
 dT 12 [38] (oL 39 1 38),
 dF 13 [6] (oG 40 4 6),
 dT 14 [40] (oL 41 1 40),
 dF 15 [27] (oZ 42 27),
 dF 16 [42] (oF 43 7 42),
 ⟨17, [43], false, [14, 12, 10, 8, 6], oN (.store 1 (.u 43) (xI 2))⟩,
 dF 18 [28] (oZ 44 28),
 dF 19 [44] (oF 45 5 44),
 ⟨20, [45, 33], false, [14, 12, 10, 8], oR 2 45 33⟩,
 dF 21 [29] (oZ 46 29),
 dF 22 [46] (oF 47 8 46),
 ⟨23, [47, 35], false, [14, 12, 10], oR 1 47 35⟩,
 dF 24 [30] (oZ 48 30),
 dF 25 [48] (oF 49 9 48),
 ⟨26, [49, 37], false, [14, 12], oR 1 49 37⟩,
 dF 27 [31] (oZ 50 31),
 dF 28 [50] (oF 51 10 50),
 ⟨29, [51, 39], false, [14], oR 1 51 39⟩,
 dF 30 [32] (oZ 52 32),
 dF 31 [52] (oF 53 11 52),
 dF 32 [53, 41] (oR 1 53 41)])))
def r133 : List LRes := []
theorem t133 : trOk Tryz.prog Tryz.f133 (vL [0, 1, 2, 5, 6, 8]) c133 r133 := ⟨by kernel_rfl, by kernel_rfl⟩
def c134 : LCode :=
 sR [oB 3 0,
 oB 4 1,
 oT 6 (.zero [.fsl 1 0 []]),
 oT 7 (.mov (.c (.fsl 1 0 []))),
 oI 8 0]
 (.seq (sR [oK 13 1 3,
 oK 14 2 4,
 oM 15 2,
 oC 16 149 [.u 13, .u 14, .u 15],
 oV 9 16]
 (sR [oM 17 9,
 oT 18 (.bin .neq (.u 17) (xI 0))]
 (cT 18
 (sR [oU 19 (.build [.fsl 1 0 []] []),
 oM 20 9,
 oS 1 6 19,
 oT 7 (.mov (.c (.fsl 1 0 []))),
 oV 8 20]
 .ret)
 .skip)))
 (sR [oK 22 1 3,
 oK 23 2 4,
 oM 24 2,
 oC 25 122 [.u 22, .u 23, .u 24],
 oW 21 25,
 oX 26 21 0,
 oX 27 21 1,
 oT 10 (.zero [zI, zI]),
 oS 2 10 26,
 oV 11 27]
 (.seq (sR [oM 28 11,
 oT 29 (.bin .neq (.u 28) (xI 0))]
 (cT 29
 (sR [oU 30 (.build [.fsl 1 0 []] []),
 oM 31 11,
 oS 1 6 30,
 oT 7 (.mov (.c (.fsl 1 0 []))),
 oV 8 31]
 .ret)
 .skip))
 (.seq (sR [oK 32 1 3,
 oK 33 2 10,
 oT 34 (.call 119 [.u 32, .u 33])]
 (cT 34
 (sR [oU 35 (.build [.fsl 1 0 []] []),
 oS 1 6 35,
 oT 7 (.mov (.c (.fsl 1 0 []))),
 oI 8 21]
 .ret)
 .skip))
 (sR [oK 36 1 3,
 oC 37 114 [.u 36],
 oT 12 (.zero [.fsl 1 0 []]),
 oS 1 12 37]
 (sR [oK 38 1 12,
 oK 39 2 4,
 oM 40 2,
 oC 41 151 [.u 38, .u 39, .u 40, xI 0]]
 (sR [oK 42 1 12,
 oK 43 2 10,
 oC 44 153 [.u 42, .u 43]]
 (sD [dT 0 [12] (oK 45 1 12),
 dT 1 [4] (oK 46 2 4),
 dF 2 [2] (oM 47 2),
 dT 3 [10] (oK 48 2 10),
 dF 4 [] (oU 49 (.build [zI, zI] [])),
 ⟨5, [46, 47, 48, 49], false, [0], oC 50 152 [.u 46, .u 47, .u 48, .u 49]⟩,
 dF 6 [6, 45] (oS 1 6 45),
 dF 7 [50] (oV 7 50),
 dF 8 [] (oI 8 0)]
 .ret))))))))
def r134 : List LRes := [.cell true 1 6, .slot 7, .slot 8]
theorem t134 : trOk Tryz.prog Tryz.f134 (vL [0, 1, 2, 3, 4, 6, 7, 8, 9, 10, 11, 12, 18, 29, 34]) c134 r134 := ⟨by kernel_rfl, by kernel_rfl⟩
def c135 : LCode :=
 sR [oB 3 1,
 oP 4 false]
 (.seq (sD [dF 0 [0] (oM 6 0),
 dF 1 [6] (oZ 7 6),
 dF 2 [7] (oF 8 0 7),
 dF 3 [8] (oF 9 0 8),
 dT 4 [9] (oJ 10 2 9),
 dT 5 [3] (oK 11 2 3),
 dF 6 [10, 11] (oT 12 (.call 154 [.u 10, .u 11]))]
 (cT 12
 (sR [oP 4 true]
 .ret)
 .skip))
 (.seq (sR [oI 5 0]
 (.block 0 (.loop (.seq (sR [oM 13 5,
 oM 14 0,
 oZ 15 14,
 oF 16 0 15,
 oF 17 2 16,
 oF 18 2 17,
 oL 19 1 18,
 oU 20 (.lenL (.u 19)),
 oT 21 (.bin .lss (.u 13) (.u 20))]
 (cT 21
 .skip
 (.exit 0)))
 (.seq (.block 1 (sD [dF 0 [0] (oM 24 0),
 dF 1 [24] (oZ 25 24),
 dF 2 [25] (oF 26 0 25),
 dF 3 [26] (oF 27 2 26),
 dF 4 [27] (oF 28 2 27),
 dT 5 [28] (oL 29 1 28),
 dF 6 [5] (oM 30 5),
 dF 7 [29, 30] (oA 31 14 29 30),
 dF 8 [31] (oF 32 8 31),
 dT 9 [32] (oJ 33 2 32),
 dT 10 [3] (oK 34 2 3),
 dF 11 [33, 34] (oT 35 (.eqS false 2 [(0, 1), (1, 1)] (.u 33) (.u 34)))]
 (cT 35
 (sR [oP 4 true]
 .ret)
 .skip)))
 (.region [oM 22 5,
 oU 23 (.bin .add (.u 22) (xI 1)),
 oV 5 23]))))))
 (sR [oP 4 false]
 .ret)))
def r135 : List LRes := [.slot 4]
theorem t135 : trOk Tryz.prog Tryz.f135 (vL [0, 1, 3, 4, 5, 12, 21, 35]) c135 r135 := ⟨by kernel_rfl, by kernel_rfl⟩
def c136 : LCode :=
 sR [oB 3 0,
 oB 4 1,
 oT 6 (.zero [.fsl 1 0 []]),
 oT 7 (.mov (.c (.fsl 1 0 []))),
 oI 8 0]
 (.seq (sR [oK 13 1 3,
 oK 14 2 4,
 oM 15 2,
 oC 16 149 [.u 13, .u 14, .u 15],
 oV 9 16]
 (sR [oM 17 9,
 oT 18 (.bin .neq (.u 17) (xI 0))]
 (cT 18
 (sR [oU 19 (.build [.fsl 1 0 []] []),
 oM 20 9,
 oS 1 6 19,
 oT 7 (.mov (.c (.fsl 1 0 []))),
 oV 8 20]
 .ret)
 .skip)))
 (sR [oK 22 1 3,
 oK 23 2 4,
 oM 24 2,
 oC 25 122 [.u 22, .u 23, .u 24],
 oW 21 25,
 oX 26 21 0,
 oX 27 21 1,
 oT 10 (.zero [zI, zI]),
 oS 2 10 26,
 oV 11 27]
 (.seq (sR [oM 28 11,
 oT 29 (.bin .neq (.u 28) (xI 0))]
 (cT 29
 (sR [oU 30 (.build [.fsl 1 0 []] []),
 oM 31 11,
 oS 1 6 30,
 oT 7 (.mov (.c (.fsl 1 0 []))),
 oV 8 31]
 .ret)
 .skip))
 (.seq (sR [oK 32 1 3,
 oK 33 2 10,
 oC 34 119 [.u 32, .u 33],
 oT 35 (.un .not (.u 34))]
 (cT 35
 (sR [oU 36 (.build [.fsl 1 0 []] []),
 oS 1 6 36,
 oT 7 (.mov (.c (.fsl 1 0 []))),
 oI 8 20]
 .ret)
 .skip))
 (.seq (sR [oK 37 1 3,
 oK 38 2 10,
 oC 39 155 [.u 37, .u 38],
 oT 40 (.un .not (.u 39))]
 (cT 40
 (sR [oU 41 (.build [.fsl 1 0 []] []),
 oS 1 6 41,
 oT 7 (.mov (.c (.fsl 1 0 []))),
 oI 8 39]
 .ret)
 .skip))
 (sR [oK 42 1 3,
 oC 43 114 [.u 42],
 oT 12 (.zero [.fsl 1 0 []]),
 oS 1 12 43]
 (sR [oK 44 1 12,
 oK 45 2 4,
 oM 46 2,
 oC 47 151 [.u 44, .u 45, .u 46, xI 0]]
 (sR [oK 48 1 12,
 oK 49 2 10,
 oC 50 153 [.u 48, .u 49]]
 (sD [dT 0 [12] (oK 51 1 12),
 dT 1 [4] (oK 52 2 4),
 dF 2 [2] (oM 53 2),
 dT 3 [10] (oK 54 2 10),
 dF 4 [] (oU 55 (.build [zI, zI] [])),
 ⟨5, [52, 53, 54, 55], false, [0], oC 56 152 [.u 52, .u 53, .u 54, .u 55]⟩,
 dF 6 [6, 51] (oS 1 6 51),
 dF 7 [56] (oV 7 56),
 dF 8 [] (oI 8 0)]
 .ret)))))))))
def r136 : List LRes := [.cell true 1 6, .slot 7, .slot 8]
theorem t136 : trOk Tryz.prog Tryz.f136 (vL [0, 1, 2, 3, 4, 6, 7, 8, 9, 10, 11, 12, 18, 29, 35, 40]) c136 r136 := ⟨by kernel_rfl, by kernel_rfl⟩
def c137 : LCode :=
 sR [oB 5 0,
 oB 6 1,
 oB 8 3,
 oT 10 (.zero [.fsl 1 0 []]),
 oT 11 (.mov (.c (.fsl 1 0 []))),
 oI 12 0]
 (sD [dT 0 [5] (oK 23 1 5),
 dT 1 [6] (oK 24 2 6),
 dF 2 [2] (oM 25 2),
 dT 4 [5] (oK 27 1 5),
 dT 5 [8] (oK 28 2 8),
 dF 6 [4] (oM 29 4),
 ⟨3, [23, 24, 25], false, [5, 4], oC 26 149 [.u 23, .u 24, .u 25]⟩,
 dF 7 [27, 28, 29] (oC 30 149 [.u 27, .u 28, .u 29]),
 dF 8 [26] (oV 13 26),
 dF 9 [30] (oV 14 30)]
 (sR [oU 31 (.mkS 1 3 [zI] [(0, 1, xI 2), (1, 1, xI 20), (2, 1, xI 22)]),
 oV 15 31]
 (.seq (sR [oI 16 0]
 (.block 0 (.loop (.seq (sR [oM 32 16,
 oM 33 15,
 oU 34 (.lenL (.u 33)),
 oT 35 (.bin .lss (.u 32) (.u 34))]
 (cT 35
 .skip
 (.exit 0)))
 (.seq (.block 1 (sR [oM 38 13,
 oM 39 15,
 oM 40 16,
 oA 41 1 39 40,
 oL 42 1 41,
 oU 43 (.bin .eql (.u 38) (.u 42)),
 oW 44 43,
 oO 45 44 (.mov (.t 14)),
 oO 46 44 (.mov (.t 15)),
 oO 47 44 (.mov (.t 16)),
 oO 48 44 (.iaS 1 (.u 46) (.u 47)),
 oO 49 44 (.load false 1 (.u 48)),
 oO 50 44 (.bin .eql (.u 45) (.u 49)),
 oQ 51 44 50]
 (cT 51
 (sD [dF 0 [] (oU 52 (.build [.fsl 1 0 []] [])),
 dF 1 [15] (oM 53 15),
 dF 2 [16] (oM 54 16),
 dF 3 [53, 54] (oA 55 1 53 54),
 dT 4 [55] (oL 56 1 55),
 ⟨5, [10, 52], false, [4], oS 1 10 52⟩,
 dF 6 [] (oT 11 (.mov (.c (.fsl 1 0 [])))),
 dF 7 [56] (oV 12 56)]
 .ret)
 .skip)))
 (.region [oM 36 16,
 oU 37 (.bin .add (.u 36) (xI 1)),
 oV 16 37]))))))
 (sR [oK 58 1 5,
 oK 59 2 6,
 oM 60 2,
 oC 61 122 [.u 58, .u 59, .u 60],
 oW 57 61,
 oX 62 57 0,
 oX 63 57 1,
 oT 17 (.zero [zI, zI]),
 oS 2 17 62,
 oV 18 63]
 (.seq (sR [oM 64 18,
 oT 65 (.bin .neq (.u 64) (xI 0))]
 (cT 65
 (sR [oU 66 (.build [.fsl 1 0 []] []),
 oM 67 18,
 oS 1 10 66,
 oT 11 (.mov (.c (.fsl 1 0 []))),
 oV 12 67]
 .ret)
 .skip))
 (.seq (sR [oG 68 0 6,
 oL 69 1 68,
 oG 70 0 8,
 oL 71 1 70,
 oT 72 (.bin .neq (.u 69) (.u 71))]
 (cT 72
 (sR [oU 73 (.build [.fsl 1 0 []] []),
 oS 1 10 73,
 oT 11 (.mov (.c (.fsl 1 0 []))),
 oI 12 18]
 .ret)
 .skip))
 (sR [oK 74 1 5,
 oK 75 2 17,
 oC 76 119 [.u 74, .u 75],
 oV 19 76]
 (.seq (sR [oM 77 19,
 oW 78 77,
 oY 79 78 (.load true 1 (.t 5)),
 oY 80 78 (.load true 2 (.t 8)),
 oY 81 78 (.load true 2 (.t 17)),
 oY 82 78 (.call 156 [.u 79, .u 80, .u 81]),
 oT 83 (.pick (.u 78) (.u 82) (.c (.bool false)))]
 (cT 83
 (sR [oU 84 (.build [.fsl 1 0 []] []),
 oS 1 10 84,
 oT 11 (.mov (.c (.fsl 1 0 []))),
 oI 12 22]
 .ret)
 .skip))
 (sR [oK 86 1 5,
 oK 87 2 8,
 oM 88 4,
 oC 89 122 [.u 86, .u 87, .u 88],
 oW 85 89,
 oX 90 85 0,
 oX 91 85 1,
 oT 20 (.zero [zI, zI]),
 oS 2 20 90,
 oV 18 91]
 (.seq (sR [oM 92 18,
 oU 93 (.bin .eql (.u 92) (xI 0)),
 oW 94 93,
 oY 95 94 (.load true 2 (.t 20)),
 oY 96 94 (.load true 2 (.t 17)),
 oY 97 94 (.eqS false 2 [(0, 1), (1, 1)] (.u 95) (.u 96)),
 oT 98 (.pick (.u 94) (.u 97) (.c (.bool false)))]
 (cT 98
 (sR [oK 99 1 5,
 oC 100 114 [.u 99],
 oS 1 10 100,
 oT 11 (.mov (.c (.fsl 1 0 []))),
 oI 12 0]
 .ret)
 .skip))
 (.seq (sR [oM 101 18,
 oT 102 (.bin .eql (.u 101) (xI 0))]
 (cT 102
 (sR [oK 103 1 5,
 oK 104 2 20,
 oC 105 119 [.u 103, .u 104],
 oV 21 105]
 (.seq (sR [oM 106 21,
 oW 107 106,
 oY 108 107 (.mov (.t 19)),
 oY 109 107 (.un .not (.u 108)),
 oT 110 (.pick (.u 107) (.u 109) (.c (.bool false)))]
 (cT 110
 (sR [oU 111 (.build [.fsl 1 0 []] []),
 oS 1 10 111,
 oT 11 (.mov (.c (.fsl 1 0 []))),
 oI 12 21]
 .ret)
 .skip))
 (.seq (sR [oM 112 21,
 oU 113 (.un .not (.u 112)),
 oW 114 113,
 oY 115 114 (.mov (.t 19)),
 oT 116 (.pick (.u 114) (.u 115) (.c (.bool false)))]
 (cT 116
 (sR [oU 117 (.build [.fsl 1 0 []] []),
 oS 1 10 117,
 oT 11 (.mov (.c (.fsl 1 0 []))),
 oI 12 20]
 .ret)
 .skip))
 (sR [oM 118 21,
 oW 119 118,
 oY 120 119 (.load true 1 (.t 5)),
 oY 121 119 (.load true 2 (.t 20)),
 oY 122 119 (.call 155 [.u 120, .u 121]),
 oY 123 119 (.un .not (.u 122)),
 oT 124 (.pick (.u 119) (.u 123) (.c (.bool false)))]
 (cT 124
 (sR [oU 125 (.build [.fsl 1 0 []] []),
 oS 1 10 125,
 oT 11 (.mov (.c (.fsl 1 0 []))),
 oI 12 39]
 .ret)
 .skip)))))
 (sR [oK 126 1 5,
 oK 127 2 8,
 oC 128 150 [.u 126, .u 127],
 oW 129 128,
 oY 130 129 (.load true 2 (.t 6)),
 oY 131 129 (.load true 2 (.t 8)),
 oY 132 129 (.eqS true 2 [(0, 1), (1, 1)] (.u 130) (.u 131)),
 oT 133 (.pick (.u 129) (.u 132) (.c (.bool false)))]
 (cT 133
 (sR [oU 134 (.build [.fsl 1 0 []] []),
 oS 1 10 134,
 oT 11 (.mov (.c (.fsl 1 0 []))),
 oI 12 28]
 .ret)
 .skip))))
 (sR [oK 135 1 5,
 oC 136 114 [.u 135],
 oT 22 (.zero [.fsl 1 0 []]),
 oS 1 22 136]
 (sR [oK 137 1 22,
 oK 138 2 6,
 oM 139 2,
 oC 140 151 [.u 137, .u 138, .u 139, xI 0]]
 (sR [oK 141 1 22,
 oK 142 2 8,
 oM 143 4,
 oG 144 1 17,
 oL 145 1 144,
 oC 146 151 [.u 141, .u 142, .u 143, .u 145]]
 (.seq (sR [oM 147 18,
 oT 148 (.bin .eql (.u 147) (xI 0))]
 (cT 148
 (.region [oK 149 1 22,
 oK 150 2 20,
 oC 151 153 [.u 149, .u 150]])
 .skip))
 (.seq (sR [oT 152 (.mov (.t 19))]
 (cT 152
 (.regionD [dF 0 [22] (oG 153 0 22),
 dT 1 [153] (oL 154 1 153),
 dF 2 [8] (oG 155 0 8),
 dT 3 [155] (oL 156 1 155),
 dF 4 [154, 156] (oA 157 2 154 156),
 dF 5 [157] (oF 158 1 157),
 dT 6 [158] (oL 159 1 158),
 dT 7 [22] (oK 160 1 22),
 dT 8 [17] (oK 161 2 17),
 dF 10 [8] (oG 163 1 8),
 dT 11 [163] (oL 164 1 163),
 ⟨9, [160, 161], false, [11, 6, 3, 1], oC 162 144 [.u 160, .u 161]⟩,
 dF 12 [159, 162] (oA 165 8 159 162),
 dF 13 [165] (oF 166 5 165),
 dF 14 [166, 164] (oR 1 166 164)])
 .skip))
 (sD [dT 0 [22] (oK 167 1 22),
 dT 1 [6] (oK 168 2 6),
 dF 2 [2] (oM 169 2),
 dT 3 [17] (oK 170 2 17),
 dF 4 [] (oU 171 (.build [zI, zI] [])),
 dT 6 [8] (oK 173 2 8),
 dF 7 [4] (oM 174 4),
 dT 8 [20] (oK 175 2 20),
 dT 9 [17] (oK 176 2 17),
 ⟨5, [168, 169, 170, 171], false, [9, 8, 6, 0], oC 172 152 [.u 168, .u 169, .u 170, .u 171]⟩,
 ⟨10, [173, 174, 175, 176], false, [0], oC 177 152 [.u 173, .u 174, .u 175, .u 176]⟩,
 ⟨11, [172, 177], false, [0], oU 178 (.app 7 64 (.u 172) (.u 177))⟩,
 dF 12 [10, 167] (oS 1 10 167),
 dF 13 [178] (oV 11 178),
 dF 14 [] (oI 12 0)]
 .ret)))))))))))))))))
def r137 : List LRes := [.cell true 1 10, .slot 11, .slot 12]
theorem t137 : trOk Tryz.prog Tryz.f137 (vL [0, 1, 2, 3, 4, 5, 6, 8, 10, 11, 12, 13, 14, 15, 16, 17, 18, 19, 20, 21, 22, 35, 51, 65, 72, 83, 98, 102, 110, 116, 124, 133, 148, 152]) c137 r137 := ⟨by kernel_rfl, by kernel_rfl⟩
def c138 : LCode :=
 sR [oB 5 0,
 oB 6 1,
 oT 10 (.zero [.fsl 1 0 []]),
 oI 11 0]
 (sR [oK 16 1 5,
 oK 17 2 6,
 oC 18 124 [.u 16, .u 17],
 oW 15 18,
 oX 19 15 0,
 oX 20 15 1,
 oT 12 (.zero [zI, zI, zI, zI, zI, zI, .str [], .fsl 1 0 []]),
 oS 8 12 19,
 oV 13 20]
 (.seq (sR [oM 21 13,
 oT 22 (.un .not (.u 21))]
 (cT 22
 (sR [oU 23 (.build [.fsl 1 0 []] []),
 oS 1 10 23,
 oI 11 2]
 .ret)
 .skip))
 (sR [oM 24 2,
 oM 25 3,
 oM 26 4,
 oG 27 2 12,
 oR 1 27 24,
 oG 28 3 12,
 oR 1 28 25,
 oG 29 4 12,
 oR 1 29 26]
 (.seq (sR [oK 30 8 12,
 oC 31 157 [.u 30],
 oT 32 (.un .not (.u 31))]
 (cT 32
 (sR [oU 33 (.build [.fsl 1 0 []] []),
 oS 1 10 33,
 oI 11 22]
 .ret)
 .skip))
 (sR [oK 34 1 5,
 oC 35 114 [.u 34],
 oT 14 (.zero [.fsl 1 0 []]),
 oS 1 14 35]
 (sD [dF 0 [14] (oG 36 0 14),
 dT 1 [36] (oL 37 1 36),
 dF 2 [6] (oG 38 0 6),
 dT 3 [38] (oL 39 1 38),
 dF 4 [37, 39] (oA 40 2 37 39),
 dF 5 [40] (oF 41 1 40),
 dT 6 [41] (oL 42 1 41),
 dT 7 [14] (oK 43 1 14),
 dT 8 [6] (oK 44 2 6),
 dT 10 [12] (oK 46 8 12),
 ⟨9, [43, 44], false, [10, 6, 3, 1], oC 45 144 [.u 43, .u 44]⟩,
 dF 11 [42, 45] (oA 47 8 42 45),
 dF 12 [47, 46] (oR 8 47 46)]
 (sR [oK 48 1 14,
 oS 1 10 48,
 oI 11 0]
 .ret)))))))
def r138 : List LRes := [.cell true 1 10, .slot 11]
theorem t138 : trOk Tryz.prog Tryz.f138 (vL [0, 1, 2, 3, 4, 5, 6, 10, 11, 12, 13, 14, 22, 32]) c138 r138 := ⟨by kernel_rfl, by kernel_rfl⟩
def c139 : LCode :=
 sR [oB 3 0,
 oB 5 2,
 oT 6 (.zero [.fsl 1 0 [], .fsl 1 0 []]),
 oI 7 0]
 (.seq (sR [oM 11 1,
 oU 12 (.bin .lss (.u 11) (xI 1)),
 oW 13 12,
 oO 14 13 (.mov (.t 1)),
 oO 15 13 (.faddr 0 (.t 3)),
 oO 16 13 (.faddr 0 (.u 15)),
 oO 17 13 (.load false 1 (.u 16)),
 oO 18 13 (.lenL (.u 17)),
 oO 19 13 (.bin .geq (.u 14) (.u 18)),
 oQ 20 13 19]
 (cT 20
 (sR [oU 21 (.build [.fsl 1 0 [], .fsl 1 0 []] []),
 oS 2 6 21,
 oI 7 22]
 .ret)
 .skip))
 (sR [oG 23 0 3,
 oJ 24 1 23,
 oK 25 2 5,
 oC 26 124 [.u 24, .u 25],
 oW 22 26,
 oX 27 22 0,
 oX 28 22 1,
 oT 8 (.zero [zI, zI, zI, zI, zI, zI, .str [], .fsl 1 0 []]),
 oS 8 8 27,
 oV 9 28]
 (.seq (sR [oM 29 9,
 oT 30 (.un .not (.u 29))]
 (cT 30
 (sR [oU 31 (.build [.fsl 1 0 [], .fsl 1 0 []] []),
 oS 2 6 31,
 oI 7 2]
 .ret)
 .skip))
 (.seq (sR [oG 32 1 8,
 oL 33 1 32,
 oT 34 (.bin .neq (.u 33) (xI 2))]
 (cT 34
 (sR [oU 35 (.build [.fsl 1 0 [], .fsl 1 0 []] []),
 oS 2 6 35,
 oI 7 20]
 .ret)
 .skip))
 (.seq (sR [oK 36 2 3,
 oG 37 0 5,
 oL 38 1 37,
 oC 39 145 [.u 36, .u 38],
 oU 40 (.un .not (.u 39)),
 oW 41 40,
 oO 42 41 (.faddr 0 (.t 5)),
 oO 43 41 (.load false 1 (.u 42)),
 oO 44 41 (.mov (.t 1)),
 oO 45 41 (.bin .eql (.u 43) (.u 44)),
 oQ 46 41 45]
 (cT 46
 (sR [oU 47 (.build [.fsl 1 0 [], .fsl 1 0 []] []),
 oS 2 6 47,
 oI 7 22]
 .ret)
 .skip))
 (.seq (sR [oK 48 2 3,
 oM 49 1,
 oC 50 145 [.u 48, .u 49],
 oW 51 50,
 oO 52 51 (.load true 2 (.t 3)),
 oO 53 51 (.load true 2 (.t 5)),
 oO 54 51 (.call 154 [.u 52, .u 53]),
 oQ 55 51 54]
 (cT 55
 (sR [oU 56 (.build [.fsl 1 0 [], .fsl 1 0 []] []),
 oS 2 6 56,
 oI 7 16]
 .ret)
 .skip))
 (sR [oK 57 2 3,
 oC 58 95 [.u 57],
 oT 10 (.zero [.fsl 1 0 [], .fsl 1 0 []]),
 oS 2 10 58]
 (sR [oG 59 1 10,
 oL 60 1 59,
 oM 61 1,
 oK 62 2 5,
 oU 63 (.build [zI, zI, zI] [(0, 1, .u 61), (1, 2, .u 62)]),
 oU 64 (.mkS 3 1 [zI, zI, zI] [(0, 3, .u 63)]),
 oU 65 (.app 3 24 (.u 60) (.u 64)),
 oG 66 1 10,
 oR 1 66 65]
 (sR [oK 67 2 10,
 oS 2 6 67,
 oI 7 0]
 .ret)))))))))
def r139 : List LRes := [.cell true 2 6, .slot 7]
theorem t139 : trOk Tryz.prog Tryz.f139 (vL [0, 1, 2, 3, 5, 6, 7, 8, 9, 10, 20, 30, 34, 46, 55]) c139 r139 := ⟨by kernel_rfl, by kernel_rfl⟩
def c140 : LCode :=
 sR [oI 2 0]
 (sR [oM 9 0,
 oZ 10 9,
 oF 11 19 10,
 oF 12 1 11,
 oU 13 (.iaA 4 1 (.u 12) (xI 0)),
 oL 14 1 13,
 oV 3 14]
 (.seq (sR [oM 15 0,
 oZ 16 15,
 oF 17 5 16,
 oF 18 3 17,
 oL 19 1 18,
 oT 20 (.bin .neq (.u 19) (xI 0))]
 (cT 20
 (sR [oI 2 1]
 .ret)
 .skip))
 (.seq (sR [oM 21 3,
 oU 22 (.bin .eql (.u 21) (xI 0)),
 oW 23 22,
 oO 24 23 (.mov (.t 0)),
 oO 25 23 (.nilc (.u 24)),
 oO 26 23 (.faddr 0 (.u 25)),
 oO 27 23 (.faddr 0 (.u 26)),
 oO 28 23 (.load true 2 (.u 27)),
 oO 29 23 (.mov (.t 3)),
 oO 30 23 (.call 145 [.u 28, .u 29]),
 oO 31 23 (.un .not (.u 30)),
 oQ 32 23 31]
 (cT 32
 (sR [oI 2 22]
 .ret)
 .skip))
 (.seq (sR [oI 4 0]
 (.block 0 (.loop (.seq (sR [oM 33 4,
 oM 34 0,
 oZ 35 34,
 oF 36 0 35,
 oF 37 2 36,
 oF 38 2 37,
 oL 39 1 38,
 oU 40 (.lenL (.u 39)),
 oT 41 (.bin .lss (.u 33) (.u 40))]
 (cT 41
 .skip
 (.exit 0)))
 (.seq (.block 1 (sR [oM 44 0,
 oZ 45 44,
 oF 46 0 45,
 oF 47 2 46,
 oF 48 2 47,
 oL 49 1 48,
 oM 50 4,
 oA 51 14 49 50,
 oJ 52 14 51,
 oT 5 (.zero [zI, zI, zI, zI, zI, zI, zI, zI, zI, zI, .str [], .str [], .fsl 1 0 [], .bool false]),
 oS 14 5 52]
 (.seq (sR [oG 53 8 5,
 oF 54 0 53,
 oL 55 1 54,
 oM 56 3,
 oT 57 (.bin .eql (.u 55) (.u 56))]
 (cT 57
 (sR [oI 2 16]
 .ret)
 .skip))
 (sR [oI 6 0]
 (.block 2 (.loop (.seq (sR [oM 58 6,
 oG 59 12 5,
 oL 60 1 59,
 oU 61 (.lenL (.u 60)),
 oT 62 (.bin .lss (.u 58) (.u 61))]
 (cT 62
 .skip
 (.exit 2)))
 (.seq (.block 3 (sR [oG 65 12 5,
 oL 66 1 65,
 oM 67 6,
 oA 68 4 66 67,
 oF 69 1 68,
 oF 70 0 69,
 oL 71 1 70,
 oM 72 3,
 oT 73 (.bin .eql (.u 71) (.u 72))]
 (cT 73
 (sR [oI 2 16]
 .ret)
 .skip)))
 (.region [oM 63 6,
 oU 64 (.bin .add (.u 63) (xI 1)),
 oV 6 64])))))))))
 (.region [oM 42 4,
 oU 43 (.bin .add (.u 42) (xI 1)),
 oV 4 43]))))))
 (sR [oM 75 0,
 oZ 76 75,
 oF 77 0 76,
 oF 78 0 77,
 oJ 79 2 78,
 oM 80 3,
 oC 81 158 [.u 79, .u 80],
 oW 74 81,
 oX 82 74 0,
 oX 83 74 1,
 oT 7 (.zero [.fsl 1 0 [], .fsl 1 0 []]),
 oS 2 7 82,
 oV 8 83]
 (.seq (sR [oM 84 8,
 oT 85 (.bin .eql (.u 84) (xI 0))]
 (cT 85
 (sR [oM 86 0,
 oK 87 2 7,
 oZ 88 86,
 oF 89 0 88,
 oF 90 0 89,
 oR 2 90 87]
 (.region [oM 91 0,
 oM 92 3,
 oZ 93 91,
 oF 94 27 93,
 oF 95 2 94,
 oR 1 95 92]))
 .skip))
 (sR [oM 96 8,
 oV 2 96]
 .ret)))))))
def r140 : List LRes := [.slot 2]
theorem t140 : trOk Tryz.prog Tryz.f140 (vL [0, 2, 3, 4, 5, 6, 7, 8, 20, 32, 41, 57, 62, 73, 85]) c140 r140 := ⟨by kernel_rfl, by kernel_rfl⟩
def c142 : LCode :=
 sR [oB 2 0,
 oB 3 1,
 oI 4 0,
 oP 5 false]
 (.seq (sR [oI 6 0]
 (.block 0 (.loop (.seq (sR [oM 7 6,
 oG 8 1 2,
 oL 9 1 8,
 oU 10 (.lenL (.u 9)),
 oT 11 (.bin .lss (.u 7) (.u 10))]
 (cT 11
 .skip
 (.exit 0)))
 (.seq (.block 1 (sD [dF 0 [2] (oG 14 1 2),
 dT 1 [14] (oL 15 1 14),
 dF 2 [6] (oM 16 6),
 dF 3 [15, 16] (oA 17 3 15 16),
 dF 4 [17] (oF 18 1 17),
 dT 5 [18] (oJ 19 2 18),
 dT 6 [3] (oK 20 2 3),
 dF 7 [19, 20] (oT 21 (.eqS false 2 [(0, 1), (1, 1)] (.u 19) (.u 20)))]
 (cT 21
 (sR [oG 22 1 2,
 oL 23 1 22,
 oM 24 6,
 oA 25 3 23 24,
 oF 26 0 25,
 oL 27 1 26,
 oV 4 27,
 oP 5 true]
 .ret)
 .skip)))
 (.region [oM 12 6,
 oU 13 (.bin .add (.u 12) (xI 1)),
 oV 6 13]))))))
 (sR [oI 4 0,
 oP 5 false]
 .ret))
def r142 : List LRes := [.slot 4, .slot 5]
theorem t142 : trOk Tryz.prog Tryz.f142 (vL [0, 1, 2, 3, 4, 5, 6, 11, 21]) c142 r142 := ⟨by kernel_rfl, by kernel_rfl⟩
def c143 : LCode :=
 sR [oB 2 0,
 oT 4 (.zero [zI, zI]),
 oP 5 false]
 (.seq (sR [oI 6 0]
 (.block 0 (.loop (.seq (sR [oM 7 6,
 oG 8 1 2,
 oL 9 1 8,
 oU 10 (.lenL (.u 9)),
 oT 11 (.bin .lss (.u 7) (.u 10))]
 (cT 11
 .skip
 (.exit 0)))
 (.seq (.block 1 (sR [oG 14 1 2,
 oL 15 1 14,
 oM 16 6,
 oA 17 3 15 16,
 oF 18 0 17,
 oL 19 1 18,
 oM 20 1,
 oT 21 (.bin .eql (.u 19) (.u 20))]
 (cT 21
 (sR [oG 22 1 2,
 oL 23 1 22,
 oM 24 6,
 oA 25 3 23 24,
 oF 26 1 25,
 oJ 27 2 26,
 oS 2 4 27,
 oP 5 true]
 .ret)
 .skip)))
 (.region [oM 12 6,
 oU 13 (.bin .add (.u 12) (xI 1)),
 oV 6 13]))))))
 (sR [oU 28 (.build [zI, zI] []),
 oS 2 4 28,
 oP 5 false]
 .ret))
def r143 : List LRes := [.cell true 2 4, .slot 5]
theorem t143 : trOk Tryz.prog Tryz.f143 (vL [0, 1, 2, 4, 5, 6, 11, 21]) c143 r143 := ⟨by kernel_rfl, by kernel_rfl⟩
def c144 : LCode :=
 sR [oB 2 0,
 oB 3 1,
 oI 4 0]
 (.seq (sR [oG 7 0 3,
 oL 8 1 7,
 oU 9 (.bin .lss (.u 8) (xI 0)),
 oW 10 9,
 oO 11 10 (.faddr 0 (.t 3)),
 oO 12 10 (.load false 1 (.u 11)),
 oO 13 10 (.faddr 0 (.t 2)),
 oO 14 10 (.load false 1 (.u 13)),
 oO 15 10 (.lenL (.u 14)),
 oO 16 10 (.bin .geq (.u 12) (.u 15)),
 oQ 17 10 16]
 (cT 17
 (sR [oI 4 (-1)]
 .ret)
 .skip))
 (sR [oG 18 0 2,
 oL 19 1 18,
 oG 20 0 3,
 oL 21 1 20,
 oA 22 2 19 21,
 oF 23 1 22,
 oL 24 1 23,
 oV 5 24]
 (.seq (sR [oI 6 0]
 (.block 0 (.loop (.seq (sR [oM 25 6,
 oM 26 5,
 oU 27 (.lenL (.u 26)),
 oT 28 (.bin .lss (.u 25) (.u 27))]
 (cT 28
 .skip
 (.exit 0)))
 (.seq (.block 1 (sD [dF 0 [5] (oM 31 5),
 dF 1 [6] (oM 32 6),
 dF 2 [31, 32] (oA 33 8 31 32),
 dF 3 [33] (oF 34 0 33),
 dT 4 [34] (oL 35 1 34),
 dF 5 [3] (oG 36 1 3),
 dT 6 [36] (oL 37 1 36),
 dF 7 [35, 37] (oT 38 (.bin .eql (.u 35) (.u 37)))]
 (cT 38
 (sR [oM 39 6,
 oV 4 39]
 .ret)
 .skip)))
 (.region [oM 29 6,
 oU 30 (.bin .add (.u 29) (xI 1)),
 oV 6 30]))))))
 (sR [oI 4 (-1)]
 .ret))))
def r144 : List LRes := [.slot 4]
theorem t144 : trOk Tryz.prog Tryz.f144 (vL [0, 1, 2, 3, 4, 5, 6, 17, 28, 38]) c144 r144 := ⟨by kernel_rfl, by kernel_rfl⟩
def c145 : LCode :=
 sR [oB 2 0,
 oP 4 false]
 (sR [oK 8 2 2,
 oM 9 1,
 oC 10 143 [.u 8, .u 9],
 oW 7 10,
 oX 11 7 0,
 oX 12 7 1,
 oU 5 (.zero [zI, zI]),
 oR 2 5 11,
 oV 6 12]
 (sR [oM 13 6,
 oW 14 13,
 oO 15 14 (.mov (.t 1)),
 oO 16 14 (.bin .eql (.u 15) (xI 0)),
 oH 17 14 16,
 oV 4 17]
 .ret))
def r145 : List LRes := [.slot 4]
theorem t145 : trOk Tryz.prog Tryz.f145 (vL [0, 1, 2, 4, 6]) c145 r145 := ⟨by kernel_rfl, by kernel_rfl⟩
def c146 : LCode :=
 sR [oB 2 0,
 oB 3 1,
 oT 4 (.mov (.c (.str [])))]
 (sR [oK 11 1 2,
 oK 12 2 3,
 oC 13 124 [.u 11, .u 12],
 oW 10 13,
 oX 14 10 0,
 oX 15 10 1,
 oT 5 (.zero [zI, zI, zI, zI, zI, zI, .str [], .fsl 1 0 []]),
 oS 8 5 14,
 oW 6 15]
 (sR [oK 17 1 2,
 oG 18 0 3,
 oL 19 1 18,
 oG 20 5 5,
 oL 21 1 20,
 oU 22 (.build [zI, zI] [(0, 1, .u 19), (1, 1, .u 21)]),
 oC 23 124 [.u 17, .u 22],
 oW 16 23,
 oX 24 16 0,
 oX 25 16 1,
 oT 7 (.zero [zI, zI, zI, zI, zI, zI, .str [], .fsl 1 0 []]),
 oS 8 7 24,
 oW 8 25]
 (.seq (sR [oI 9 0]
 (.block 0 (.loop (.seq (sR [oM 26 9,
 oG 27 7 7,
 oL 28 1 27,
 oU 29 (.lenL (.u 28)),
 oT 30 (.bin .lss (.u 26) (.u 29))]
 (cT 30
 .skip
 (.exit 0)))
 (.seq (.block 1 (sD [dF 0 [7] (oG 33 7 7),
 dT 1 [33] (oL 34 1 33),
 dF 2 [9] (oM 35 9),
 dF 3 [34, 35] (oA 36 2 34 35),
 dF 4 [36] (oF 37 1 36),
 dT 5 [37] (oL 38 1 37),
 dF 6 [3] (oG 39 1 3),
 dT 7 [39] (oL 40 1 39),
 dF 8 [38, 40] (oT 41 (.bin .eql (.u 38) (.u 40)))]
 (cT 41
 (sR [oG 42 7 7,
 oL 43 1 42,
 oM 44 9,
 oA 45 2 43 44,
 oF 46 0 45,
 oL 47 1 46,
 oV 4 47]
 .ret)
 .skip)))
 (.region [oM 31 9,
 oU 32 (.bin .add (.u 31) (xI 1)),
 oV 9 32]))))))
 (sR [oT 4 (.mov (.c (.str [])))]
 .ret))))
def r146 : List LRes := [.slot 4]
theorem t146 : trOk Tryz.prog Tryz.f146 (vL [0, 1, 2, 3, 4, 5, 7, 9, 30, 41]) c146 r146 := ⟨by kernel_rfl, by kernel_rfl⟩
def c147 : LCode :=
 sR [oB 4 0,
 oP 8 false]
 (.seq (sR [oM 10 3,
 oU 11 (.bin .lss (.u 10) (xI 0)),
 oW 12 11,
 oO 13 12 (.mov (.t 3)),
 oO 14 12 (.bin .gtr (.u 13) (xI 7)),
 oQ 15 12 14]
 (cT 15
 (sR [oP 8 false]
 .ret)
 .skip))
 (.seq (sR [oM 16 1,
 oT 17 (.bin .eql (.u 16) (xI 0))]
 (cT 17
 (sR [oM 18 3,
 oU 19 (.bin .and (.u 18) (xI 1)),
 oU 20 (.bin .eql (.u 19) (xI 0)),
 oW 21 20,
 oO 22 21 (.faddr 1 (.t 4)),
 oO 23 21 (.load false 1 (.u 22)),
 oO 24 21 (.bin .eql (.u 23) (xI 2)),
 oH 25 21 24,
 oW 26 25,
 oO 27 26 (.faddr 2 (.t 4)),
 oO 28 26 (.load false 1 (.u 27)),
 oO 29 26 (.bin .and (.u 28) (xI 73)),
 oO 30 26 (.bin .neq (.u 29) (xI 0)),
 oH 31 26 30,
 oV 8 31]
 .ret)
 .skip))
 (sR [oG 32 2 4,
 oL 33 1 32,
 oU 34 (.bin .and (.u 33) (xI 7)),
 oV 9 34]
 (.seq (sR [oM 35 1,
 oG 36 3 4,
 oL 37 1 36,
 oT 38 (.bin .eql (.u 35) (.u 37))]
 (cT 38
 (.region [oG 39 2 4,
 oL 40 1 39,
 oU 41 (.bin .shr (.u 40) (.c (.int .u64 6))),
 oU 42 (.bin .and (.u 41) (xI 7)),
 oV 9 42])
 (sR [oM 43 2,
 oG 44 4 4,
 oL 45 1 44,
 oT 46 (.bin .eql (.u 43) (.u 45))]
 (cT 46
 (.region [oG 47 2 4,
 oL 48 1 47,
 oU 49 (.bin .shr (.u 48) (.c (.int .u64 3))),
 oU 50 (.bin .and (.u 49) (xI 7)),
 oV 9 50])
 .skip))))
 (sR [oM 51 9,
 oM 52 3,
 oU 53 (.bin .and (.u 51) (.u 52)),
 oM 54 3,
 oU 55 (.bin .eql (.u 53) (.u 54)),
 oV 8 55]
 .ret)))))
def r147 : List LRes := [.slot 8]
theorem t147 : trOk Tryz.prog Tryz.f147 (vL [0, 1, 2, 3, 4, 8, 9, 15, 17, 38, 46]) c147 r147 := ⟨by kernel_rfl, by kernel_rfl⟩
def c148 : LCode :=
 sR [oB 4 0,
 oB 5 1,
 oB 7 3,
 oT 8 (.zero [.fsl 1 0 []]),
 oT 9 (.mov (.c (.fsl 1 0 []))),
 oI 10 0]
 (sR [oK 17 1 4,
 oK 18 2 5,
 oM 19 2,
 oC 20 149 [.u 17, .u 18, .u 19],
 oV 11 20]
 (.seq (sR [oM 21 11,
 oU 22 (.bin .eql (.u 21) (xI 0)),
 oW 23 22,
 oY 24 23 (.load true 8 (.t 7)),
 oY 25 23 (.call 157 [.u 24]),
 oY 26 23 (.un .not (.u 25)),
 oT 27 (.pick (.u 23) (.u 26) (.c (.bool false)))]
 (cT 27
 (.region [oI 11 22])
 .skip))
 (.seq (sR [oM 28 11,
 oT 29 (.bin .neq (.u 28) (xI 0))]
 (cT 29
 (sR [oU 30 (.build [.fsl 1 0 []] []),
 oM 31 11,
 oS 1 8 30,
 oT 9 (.mov (.c (.fsl 1 0 []))),
 oV 10 31]
 .ret)
 .skip))
 (.seq (sR [oK 33 1 4,
 oK 34 2 5,
 oM 35 2,
 oC 36 122 [.u 33, .u 34, .u 35],
 oW 32 36,
 oX 37 32 0,
 oX 38 32 1,
 oU 12 (.zero [zI, zI]),
 oR 2 12 37,
 oV 13 38]
 (sR [oM 39 13,
 oT 40 (.bin .eql (.u 39) (xI 0))]
 (cT 40
 (sR [oU 41 (.build [.fsl 1 0 []] []),
 oS 1 8 41,
 oT 9 (.mov (.c (.fsl 1 0 []))),
 oI 10 17]
 .ret)
 .skip)))
 (sR [oG 42 0 4,
 oL 43 1 42,
 oG 44 0 5,
 oL 45 1 44,
 oA 46 2 43 45,
 oJ 47 2 46,
 oT 14 (.zero [zI, .fsl 1 0 []]),
 oS 2 14 47]
 (.seq (sR [oG 48 1 14,
 oL 49 1 48,
 oU 50 (.lenL (.u 49)),
 oU 51 (.bin .geq (.u 50) (xI 16)),
 oW 52 51,
 oO 53 52 (.faddr 0 (.t 14)),
 oO 54 52 (.load false 1 (.u 53)),
 oO 55 52 (.bin .eql (.u 54) (xI 1073741824)),
 oH 56 52 55,
 oW 57 56,
 oO 58 57 (.load true 1 (.t 4)),
 oO 59 57 (.load true 2 (.t 5)),
 oO 60 57 (.call 150 [.u 58, .u 59]),
 oQ 61 57 60]
 (cT 61
 (sR [oU 62 (.build [.fsl 1 0 []] []),
 oS 1 8 62,
 oT 9 (.mov (.c (.fsl 1 0 []))),
 oI 10 28]
 .ret)
 .skip))
 (sR [oK 63 1 4,
 oC 64 114 [.u 63],
 oT 15 (.zero [.fsl 1 0 []]),
 oS 1 15 64]
 (sR [oG 65 0 14,
 oL 66 1 65,
 oG 67 1 7,
 oL 68 1 67,
 oG 69 2 7,
 oL 70 1 69,
 oG 71 3 7,
 oL 72 1 71,
 oG 73 4 7,
 oL 74 1 73,
 oG 75 6 7,
 oL 76 1 75,
 oU 77 (.build [zI, zI, zI, zI, zI, zI, .str [], .fsl 1 0 []] [(0, 1, .u 66), (1, 1, .u 68), (2, 1, .u 70), (3, 1, .u 72), (4, 1, .u 74), (6, 1, .u 76)]),
 oT 16 (.zero [zI, zI, zI, zI, zI, zI, .str [], .fsl 1 0 []]),
 oS 8 16 77]
 (.seq (sR [oG 78 1 7,
 oL 79 1 78,
 oT 80 (.bin .eql (.u 79) (xI 2))]
 (cT 80
 (.region [oG 81 1 5,
 oL 82 1 81,
 oG 83 5 16,
 oR 1 83 82])
 .skip))
 (sD [dF 0 [15] (oG 84 0 15),
 dT 1 [84] (oL 85 1 84),
 dF 2 [5] (oG 86 0 5),
 dT 3 [86] (oL 87 1 86),
 dF 4 [15] (oG 88 0 15),
 dT 5 [88] (oL 89 1 88),
 dF 6 [5] (oG 90 0 5),
 dT 7 [90] (oL 91 1 90),
 dF 8 [89, 91] (oA 92 2 89 91),
 dF 9 [92] (oF 93 1 92),
 dT 10 [93] (oL 94 1 93),
 dT 11 [16] (oK 95 8 16),
 dF 12 [95] (oU 96 (.mkS 8 1 [zI, zI, zI, zI, zI, zI, .str [], .fsl 1 0 []] [(0, 8, .u 95)])),
 ⟨13, [94, 96], false, [3, 1], oU 97 (.app 8 88 (.u 94) (.u 96))⟩,
 dF 14 [85, 87] (oA 98 2 85 87),
 dF 15 [98] (oF 99 1 98),
 dF 16 [99, 97] (oR 1 99 97)]
 (sR [oG 100 0 15,
 oL 101 1 100,
 oG 102 0 5,
 oL 103 1 102,
 oA 104 2 101 103,
 oF 105 0 104,
 oL 106 1 105,
 oU 107 (.bin .add (.u 106) (xI 1)),
 oA 108 2 101 103,
 oF 109 0 108,
 oR 1 109 107]
 (sR [oK 110 1 15,
 oK 111 2 5,
 oM 112 2,
 oG 113 0 16,
 oL 114 1 113,
 oC 115 151 [.u 110, .u 111, .u 112, .u 114]]
 (sD [dT 0 [15] (oK 116 1 15),
 dT 1 [5] (oK 117 2 5),
 dF 2 [2] (oM 118 2),
 dF 3 [] (oU 119 (.build [zI, zI] [])),
 dF 4 [5] (oG 120 0 5),
 dT 5 [120] (oL 121 1 120),
 dF 6 [16] (oG 122 0 16),
 dT 7 [122] (oL 123 1 122),
 dF 8 [121, 123] (oU 124 (.build [zI, zI] [(0, 1, .u 121), (1, 1, .u 123)])),
 ⟨9, [117, 118, 119, 124], false, [0], oC 125 152 [.u 117, .u 118, .u 119, .u 124]⟩,
 dF 10 [8, 116] (oS 1 8 116),
 dF 11 [125] (oV 9 125),
 dF 12 [] (oI 10 0)]
 .ret)))))))))))))
def r148 : List LRes := [.cell true 1 8, .slot 9, .slot 10]
theorem t148 : trOk Tryz.prog Tryz.f148 (vL [0, 1, 2, 3, 4, 5, 7, 8, 9, 10, 11, 13, 14, 15, 16, 27, 29, 40, 61, 80]) c148 r148 := ⟨by kernel_rfl, by kernel_rfl⟩
def c149 : LCode :=
 sR [oB 3 0,
 oB 4 1,
 oI 6 0]
 (sR [oK 10 1 3,
 oK 11 2 4,
 oC 12 124 [.u 10, .u 11],
 oW 9 12,
 oX 13 9 0,
 oX 14 9 1,
 oT 7 (.zero [zI, zI, zI, zI, zI, zI, .str [], .fsl 1 0 []]),
 oS 8 7 13,
 oV 8 14]
 (.seq (sR [oM 15 8,
 oT 16 (.un .not (.u 15))]
 (cT 16
 (sR [oI 6 2]
 .ret)
 .skip))
 (.seq (sR [oG 17 1 7,
 oL 18 1 17,
 oT 19 (.bin .neq (.u 18) (xI 2))]
 (cT 19
 (sR [oI 6 20]
 .ret)
 .skip))
 (.seq (sR [oM 20 2,
 oC 21 123 [.u 20],
 oT 22 (.un .not (.u 21))]
 (cT 22
 (sR [oI 6 22]
 .ret)
 .skip))
 (sR [oI 6 0]
 .ret)))))
def r149 : List LRes := [.slot 6]
theorem t149 : trOk Tryz.prog Tryz.f149 (vL [0, 1, 2, 3, 4, 6, 7, 8, 16, 19, 22]) c149 r149 := ⟨by kernel_rfl, by kernel_rfl⟩
def c150 : LCode :=
 sR [oB 2 0,
 oB 3 1,
 oP 4 false]
 (sR [oK 8 1 2,
 oK 9 2 3,
 oC 10 124 [.u 8, .u 9],
 oW 7 10,
 oX 11 7 0,
 oX 12 7 1,
 oT 5 (.zero [zI, zI, zI, zI, zI, zI, .str [], .fsl 1 0 []]),
 oS 8 5 11,
 oW 6 12]
 (sR [oG 13 7 5,
 oL 14 1 13,
 oU 15 (.lenL (.u 14)),
 oU 16 (.bin .geq (.u 15) (xI 12)),
 oV 4 16]
 .ret))
def r150 : List LRes := [.slot 4]
theorem t150 : trOk Tryz.prog Tryz.f150 (vL [0, 1, 2, 3, 4, 5]) c150 r150 := ⟨by kernel_rfl, by kernel_rfl⟩
def c151 : LCode :=
 sR [oB 4 0,
 oB 5 1]
 (sD [dF 0 [4] (oG 12 0 4),
 dT 1 [12] (oL 13 1 12),
 dF 2 [5] (oG 14 0 5),
 dT 3 [14] (oL 15 1 14),
 dF 4 [13, 15] (oA 16 2 13 15),
 dF 5 [16] (oF 17 1 16),
 dT 6 [17] (oL 18 1 17),
 dT 7 [4] (oK 19 1 4),
 dT 8 [5] (oK 20 2 5),
 ⟨9, [19, 20], false, [6, 3, 1], oC 21 144 [.u 19, .u 20]⟩,
 dF 10 [18, 21] (oA 22 8 18 21),
 dT 11 [22] (oJ 23 8 22),
 ⟨12, [], false, [11, 6, 3, 1], oT 8 (.zero [zI, zI, zI, zI, zI, zI, .str [], .fsl 1 0 []])⟩,
 dF 13 [8, 23] (oS 8 8 23)]
 (sR [oT 9 (.mov (.c (.fsl 1 0 [])))]
 (sR [oM 24 3,
 oU 25 (.bin .eql (.u 24) (xI 0)),
 oV 10 25]
 (.seq (sR [oI 11 0]
 (.block 0 (.loop (.seq (sR [oM 26 11,
 oG 27 7 8,
 oL 28 1 27,
 oU 29 (.lenL (.u 28)),
 oT 30 (.bin .lss (.u 26) (.u 29))]
 (cT 30
 .skip
 (.exit 0)))
 (.seq (.block 1 (.seq (sR [oM 33 10,
 oU 34 (.un .not (.u 33)),
 oW 35 34,
 oY 36 35 (.faddr 7 (.t 8)),
 oY 37 35 (.load false 1 (.u 36)),
 oY 38 35 (.mov (.t 11)),
 oY 39 35 (.iaS 2 (.u 37) (.u 38)),
 oY 40 35 (.faddr 0 (.u 39)),
 oY 41 35 (.load false 1 (.u 40)),
 oY 42 35 (.mov (.t 2)),
 oY 43 35 (.bin .geq (.u 41) (.u 42)),
 oT 44 (.pick (.u 35) (.u 43) (.c (.bool false)))]
 (cT 44
 (sR [oM 45 9,
 oM 46 2,
 oM 47 3,
 oU 48 (.build [.str [], zI] [(0, 1, .u 46), (1, 1, .u 47)]),
 oU 49 (.mkS 2 1 [.str [], zI] [(0, 2, .u 48)]),
 oU 50 (.app 2 24 (.u 45) (.u 49)),
 oV 9 50]
 (.region [oP 10 true]))
 .skip))
 (sR [oG 51 7 8,
 oL 52 1 51,
 oM 53 11,
 oA 54 2 52 53,
 oF 55 0 54,
 oL 56 1 55,
 oM 57 2,
 oT 58 (.bin .neq (.u 56) (.u 57))]
 (cT 58
 (.region [oM 59 9,
 oG 60 7 8,
 oL 61 1 60,
 oM 62 11,
 oA 63 2 61 62,
 oJ 64 2 63,
 oU 65 (.mkS 2 1 [.str [], zI] [(0, 2, .u 64)]),
 oU 66 (.app 2 24 (.u 59) (.u 65)),
 oV 9 66])
 .skip))))
 (.region [oM 31 11,
 oU 32 (.bin .add (.u 31) (xI 1)),
 oV 11 32]))))))
 (.seq (sR [oM 67 10,
 oT 68 (.un .not (.u 67))]
 (cT 68
 (.region [oM 69 9,
 oM 70 2,
 oM 71 3,
 oU 72 (.build [.str [], zI] [(0, 1, .u 70), (1, 1, .u 71)]),
 oU 73 (.mkS 2 1 [.str [], zI] [(0, 2, .u 72)]),
 oU 74 (.app 2 24 (.u 69) (.u 73)),
 oV 9 74])
 .skip))
 (.regionD [dF 0 [4] (oG 75 0 4),
 dT 1 [75] (oL 76 1 75),
 dF 2 [5] (oG 77 0 5),
 dT 3 [77] (oL 78 1 77),
 dF 4 [76, 78] (oA 79 2 76 78),
 dF 5 [79] (oF 80 1 79),
 dT 6 [80] (oL 81 1 80),
 dT 7 [4] (oK 82 1 4),
 dT 8 [5] (oK 83 2 5),
 dF 10 [9] (oM 85 9),
 ⟨9, [82, 83], false, [6, 3, 1], oC 84 144 [.u 82, .u 83]⟩,
 dF 11 [81, 84] (oA 86 8 81 84),
 dF 12 [86] (oF 87 7 86),
 dF 13 [87, 85] (oR 1 87 85)]))))))
def r151 : List LRes := []
theorem t151 : trOk Tryz.prog Tryz.f151 (vL [0, 1, 2, 3, 4, 5, 8, 9, 10, 11, 30, 44, 58, 68]) c151 r151 := ⟨by kernel_rfl, by kernel_rfl⟩
def c152 : LCode :=
 sR [oB 4 0,
 oB 6 2,
 oB 7 3,
 oT 8 (.mov (.c (.fsl 1 0 [])))]
 (sR [oK 9 2 4,
 oM 10 1,
 oK 11 2 6,
 oK 12 2 7,
 oU 13 (.build [zI, zI, .str [], zI, zI, zI, zI] [(0, 2, .u 9), (2, 1, .u 10), (3, 2, .u 11), (5, 2, .u 12)]),
 oU 14 (.mkS 7 1 [zI, zI, .str [], zI, zI, zI, zI] [(0, 7, .u 13)]),
 oV 8 14]
 .ret)
def r152 : List LRes := [.slot 8]
theorem t152 : trOk Tryz.prog Tryz.f152 (vL [0, 1, 2, 3, 4, 6, 7, 8]) c152 r152 := ⟨by kernel_rfl, by kernel_rfl⟩
def c153 : LCode :=
 sR [oB 2 0,
 oB 3 1]
 (.seq (sR [oK 7 1 2,
 oK 8 2 3,
 oC 9 160 [.u 7, .u 8],
 oT 10 (.bin .gtr (.u 9) (xI 0))]
 (cT 10
 .ret
 .skip))
 (sR [oT 4 (.mov (.c (.fsl 1 0 [])))]
 (sR [oG 11 0 2,
 oL 12 1 11,
 oG 13 0 3,
 oL 14 1 13,
 oA 15 2 12 14,
 oF 16 1 15,
 oL 17 1 16,
 oV 5 17]
 (.seq (sR [oI 6 0]
 (.block 0 (.loop (.seq (sR [oM 18 6,
 oM 19 5,
 oU 20 (.lenL (.u 19)),
 oT 21 (.bin .lss (.u 18) (.u 20))]
 (cT 21
 .skip
 (.exit 0)))
 (.seq (.block 1 (sD [dF 0 [5] (oM 24 5),
 dF 1 [6] (oM 25 6),
 dF 2 [24, 25] (oA 26 8 24 25),
 dF 3 [26] (oF 27 0 26),
 dT 4 [27] (oL 28 1 27),
 dF 5 [3] (oG 29 1 3),
 dT 6 [29] (oL 30 1 29),
 dF 7 [28, 30] (oT 31 (.bin .neq (.u 28) (.u 30)))]
 (cT 31
 (.region [oM 32 4,
 oM 33 5,
 oM 34 6,
 oA 35 8 33 34,
 oJ 36 8 35,
 oU 37 (.mkS 8 1 [zI, zI, zI, zI, zI, zI, .str [], .fsl 1 0 []] [(0, 8, .u 36)]),
 oU 38 (.app 8 88 (.u 32) (.u 37)),
 oV 4 38])
 .skip)))
 (.region [oM 22 6,
 oU 23 (.bin .add (.u 22) (xI 1)),
 oV 6 23]))))))
 (.region [oG 39 0 2,
 oL 40 1 39,
 oG 41 0 3,
 oL 42 1 41,
 oM 43 4,
 oA 44 2 40 42,
 oF 45 1 44,
 oR 1 45 43])))))
def r153 : List LRes := []
theorem t153 : trOk Tryz.prog Tryz.f153 (vL [0, 1, 2, 3, 4, 5, 6, 10, 21, 31]) c153 r153 := ⟨by kernel_rfl, by kernel_rfl⟩
def c154 : LCode :=
 sR [oB 2 0,
 oB 3 1,
 oP 4 false]
 (sR [oK 8 2 2,
 oK 9 2 3,
 oC 10 142 [.u 8, .u 9],
 oW 7 10,
 oX 11 7 0,
 oX 12 7 1,
 oW 5 11,
 oV 6 12]
 (sR [oM 13 6,
 oV 4 13]
 .ret))
def r154 : List LRes := [.slot 4]
theorem t154 : trOk Tryz.prog Tryz.f154 (vL [0, 1, 2, 3, 4, 6]) c154 r154 := ⟨by kernel_rfl, by kernel_rfl⟩
def c155 : LCode :=
 sR [oB 2 0,
 oB 3 1,
 oP 4 false]
 (sR [oK 8 1 2,
 oK 9 2 3,
 oC 10 124 [.u 8, .u 9],
 oW 7 10,
 oX 11 7 0,
 oX 12 7 1,
 oT 5 (.zero [zI, zI, zI, zI, zI, zI, .str [], .fsl 1 0 []]),
 oS 8 5 11,
 oW 6 12]
 (sR [oG 13 7 5,
 oL 14 1 13,
 oU 15 (.lenL (.u 14)),
 oU 16 (.bin .eql (.u 15) (xI 0)),
 oV 4 16]
 .ret))
def r155 : List LRes := [.slot 4]
theorem t155 : trOk Tryz.prog Tryz.f155 (vL [0, 1, 2, 3, 4, 5]) c155 r155 := ⟨by kernel_rfl, by kernel_rfl⟩
def c156 : LCode :=
 sR [oB 3 0,
 oB 4 1,
 oB 5 2,
 oP 6 false]
 (.seq (sR [oI 7 0]
 (.block 0 (.loop (.seq (sR [oM 10 7,
 oU 11 (.bin .leq (.u 10) (xI 16)),
 oW 12 11,
 oY 13 12 (.faddr 0 (.t 4)),
 oY 14 12 (.load false 1 (.u 13)),
 oY 15 12 (.faddr 0 (.t 5)),
 oY 16 12 (.load false 1 (.u 15)),
 oY 17 12 (.bin .eql (.u 14) (.u 16)),
 oT 18 (.pick (.u 12) (.u 17) (.c (.bool false)))]
 (cT 18
 .skip
 (.exit 0)))
 (.seq (.block 1 (.seq (sR [oK 21 2 4,
 oK 22 2 5,
 oT 23 (.eqS false 2 [(0, 1), (1, 1)] (.u 21) (.u 22))]
 (cT 23
 (sR [oP 6 true]
 .ret)
 .skip))
 (sR [oK 25 1 3,
 oK 26 2 4,
 oC 27 124 [.u 25, .u 26],
 oW 24 27,
 oX 28 24 0,
 oX 29 24 1,
 oT 8 (.zero [zI, zI, zI, zI, zI, zI, .str [], .fsl 1 0 []]),
 oS 8 8 28,
 oW 9 29]
 (.region [oG 30 5 8,
 oL 31 1 30,
 oG 32 1 4,
 oR 1 32 31]))))
 (.region [oM 19 7,
 oU 20 (.bin .add (.u 19) (xI 1)),
 oV 7 20]))))))
 (sR [oP 6 false]
 .ret))
def r156 : List LRes := [.slot 6]
theorem t156 : trOk Tryz.prog Tryz.f156 (vL [0, 1, 2, 3, 4, 5, 6, 7, 8, 18, 23]) c156 r156 := ⟨by kernel_rfl, by kernel_rfl⟩
def c157 : LCode :=
 sR [oB 1 0,
 oP 2 false]
 (.seq (sR [oG 3 1 1,
 oL 4 1 3,
 oU 5 (.bin .lss (.u 4) (xI 1)),
 oW 6 5,
 oO 7 6 (.faddr 1 (.t 1)),
 oO 8 6 (.load false 1 (.u 7)),
 oO 9 6 (.bin .gtr (.u 8) (xI 3)),
 oH 10 6 9,
 oW 11 10,
 oO 12 11 (.faddr 2 (.t 1)),
 oO 13 11 (.load false 1 (.u 12)),
 oO 14 11 (.bin .lss (.u 13) (xI 0)),
 oH 15 11 14,
 oW 16 15,
 oO 17 16 (.faddr 2 (.t 1)),
 oO 18 16 (.load false 1 (.u 17)),
 oO 19 16 (.bin .gtr (.u 18) (xI 511)),
 oH 20 16 19,
 oW 21 20,
 oO 22 21 (.faddr 3 (.t 1)),
 oO 23 21 (.load false 1 (.u 22)),
 oO 24 21 (.bin .lss (.u 23) (xI 0)),
 oH 25 21 24,
 oW 26 25,
 oO 27 26 (.faddr 3 (.t 1)),
 oO 28 26 (.load false 1 (.u 27)),
 oO 29 26 (.bin .gtr (.u 28) (xI 4294967295)),
 oH 30 26 29,
 oW 31 30,
 oO 32 31 (.faddr 4 (.t 1)),
 oO 33 31 (.load false 1 (.u 32)),
 oO 34 31 (.bin .lss (.u 33) (xI 0)),
 oH 35 31 34,
 oW 36 35,
 oO 37 36 (.faddr 4 (.t 1)),
 oO 38 36 (.load false 1 (.u 37)),
 oO 39 36 (.bin .gtr (.u 38) (xI 4294967295)),
 oQ 40 36 39]
 (cT 40
 (sR [oP 2 false]
 .ret)
 .skip))
 (.seq (sR [oG 41 1 1,
 oL 42 1 41,
 oT 43 (.bin .eql (.u 42) (xI 3))]
 (cT 43
 (sR [oG 44 6 1,
 oL 45 1 44,
 oC 46 161 [.u 45],
 oV 2 46]
 .ret)
 .skip))
 (sR [oG 47 6 1,
 oL 48 1 47,
 oU 49 (.bin .eql (.u 48) (.c (.str []))),
 oV 2 49]
 .ret)))
def r157 : List LRes := [.slot 2]
theorem t157 : trOk Tryz.prog Tryz.f157 (vL [0, 1, 2, 40, 43]) c157 r157 := ⟨by kernel_rfl, by kernel_rfl⟩
def c158 : LCode :=
 sR [oB 2 0,
 oT 4 (.zero [.fsl 1 0 [], .fsl 1 0 []]),
 oI 5 0]
 (.seq (sR [oM 9 1,
 oU 10 (.bin .eql (.u 9) (xI 0)),
 oW 11 10,
 oO 12 11 (.load true 2 (.t 2)),
 oO 13 11 (.mov (.t 1)),
 oO 14 11 (.call 145 [.u 12, .u 13]),
 oO 15 11 (.un .not (.u 14)),
 oQ 16 11 15]
 (cT 16
 (sR [oU 17 (.build [.fsl 1 0 [], .fsl 1 0 []] []),
 oS 2 4 17,
 oI 5 22]
 .ret)
 .skip))
 (sR [oT 6 (.mov (.c (.fsl 1 0 [])))]
 (.seq (sR [oI 7 0]
 (.block 0 (.loop (.seq (sR [oM 18 7,
 oG 19 1 2,
 oL 20 1 19,
 oU 21 (.lenL (.u 20)),
 oT 22 (.bin .lss (.u 18) (.u 21))]
 (cT 22
 .skip
 (.exit 0)))
 (.seq (.block 1 (.seq (sR [oG 25 1 2,
 oL 26 1 25,
 oM 27 7,
 oA 28 3 26 27,
 oF 29 1 28,
 oF 30 0 29,
 oL 31 1 30,
 oM 32 1,
 oT 33 (.bin .eql (.u 31) (.u 32))]
 (cT 33
 (sR [oU 34 (.build [.fsl 1 0 [], .fsl 1 0 []] []),
 oS 2 4 34,
 oI 5 16]
 .ret)
 .skip))
 (sR [oG 35 1 2,
 oL 36 1 35,
 oM 37 7,
 oA 38 3 36 37,
 oF 39 0 38,
 oL 40 1 39,
 oM 41 1,
 oT 42 (.bin .neq (.u 40) (.u 41))]
 (cT 42
 (.region [oM 43 6,
 oG 44 1 2,
 oL 45 1 44,
 oM 46 7,
 oA 47 3 45 46,
 oJ 48 3 47,
 oU 49 (.mkS 3 1 [zI, zI, zI] [(0, 3, .u 48)]),
 oU 50 (.app 3 24 (.u 43) (.u 49)),
 oV 6 50])
 .skip))))
 (.region [oM 23 7,
 oU 24 (.bin .add (.u 23) (xI 1)),
 oV 7 24]))))))
 (sR [oK 51 2 2,
 oC 52 95 [.u 51],
 oT 8 (.zero [.fsl 1 0 [], .fsl 1 0 []]),
 oS 2 8 52]
 (sR [oM 53 6,
 oG 54 1 8,
 oR 1 54 53]
 (sR [oK 55 2 8,
 oS 2 4 55,
 oI 5 0]
 .ret))))))
def r158 : List LRes := [.cell true 2 4, .slot 5]
theorem t158 : trOk Tryz.prog Tryz.f158 (vL [0, 1, 2, 4, 5, 6, 7, 8, 16, 22, 33, 42]) c158 r158 := ⟨by kernel_rfl, by kernel_rfl⟩
def c160 : LCode :=
 sR [oB 2 0,
 oB 3 1,
 oI 4 0]
 (.seq (sR [oK 9 1 2,
 oK 10 2 3,
 oC 11 144 [.u 9, .u 10],
 oT 12 (.bin .lss (.u 11) (xI 0))]
 (cT 12
 (sR [oI 4 0]
 .ret)
 .skip))
 (sR [oI 5 0]
 (sR [oG 13 0 2,
 oL 14 1 13,
 oG 15 0 3,
 oL 16 1 15,
 oA 17 2 14 16,
 oF 18 1 17,
 oL 19 1 18,
 oV 6 19]
 (.seq (sR [oI 7 0]
 (.block 0 (.loop (.seq (sR [oM 20 7,
 oM 21 6,
 oU 22 (.lenL (.u 21)),
 oT 23 (.bin .lss (.u 20) (.u 22))]
 (cT 23
 .skip
 (.exit 0)))
 (.seq (.block 1 (sR [oI 8 0]
 (.block 2 (.loop (.seq (sR [oM 26 8,
 oM 27 6,
 oM 28 7,
 oA 29 8 27 28,
 oF 30 7 29,
 oL 31 1 30,
 oU 32 (.lenL (.u 31)),
 oT 33 (.bin .lss (.u 26) (.u 32))]
 (cT 33
 .skip
 (.exit 2)))
 (.seq (.block 3 (sD [dF 0 [6] (oM 36 6),
 dF 1 [7] (oM 37 7),
 dF 2 [36, 37] (oA 38 8 36 37),
 dF 3 [38] (oF 39 7 38),
 dT 4 [39] (oL 40 1 39),
 dF 5 [8] (oM 41 8),
 dF 6 [40, 41] (oA 42 2 40 41),
 dF 7 [42] (oF 43 1 42),
 dT 8 [43] (oL 44 1 43),
 dF 9 [3] (oG 45 1 3),
 dT 10 [45] (oL 46 1 45),
 dF 11 [44, 46] (oT 47 (.bin .eql (.u 44) (.u 46)))]
 (cT 47
 (.region [oM 48 5,
 oU 49 (.bin .add (.u 48) (xI 1)),
 oV 5 49])
 .skip)))
 (.region [oM 34 8,
 oU 35 (.bin .add (.u 34) (xI 1)),
 oV 8 35])))))))
 (.region [oM 24 7,
 oU 25 (.bin .add (.u 24) (xI 1)),
 oV 7 25]))))))
 (sR [oM 50 5,
 oV 4 50]
 .ret)))))
def r160 : List LRes := [.slot 4]
theorem t160 : trOk Tryz.prog Tryz.f160 (vL [0, 1, 2, 3, 4, 5, 6, 7, 8, 12, 23, 33, 47]) c160 r160 := ⟨by kernel_rfl, by kernel_rfl⟩
def c161 : LCode :=
 sR [oP 2 false]
 (.seq (sR [oI 3 0]
 (.block 0 (.loop (.seq (sR [oM 4 3,
 oM 5 0,
 oU 6 (.len (.u 5)),
 oT 7 (.bin .lss (.u 4) (.u 6))]
 (cT 7
 .skip
 (.exit 0)))
 (.seq (.block 1 (sR [oM 10 0,
 oM 11 3,
 oU 12 (.ixS (.u 10) (.u 11)),
 oT 13 (.bin .eql (.u 12) (.c (.int .u8 0)))]
 (cT 13
 (sR [oP 2 false]
 .ret)
 .skip)))
 (.region [oM 8 3,
 oU 9 (.bin .add (.u 8) (xI 1)),
 oV 3 9]))))))
 (sR [oM 14 0,
 oU 15 (.len (.u 14)),
 oU 16 (.bin .geq (.u 15) (xI 1)),
 oW 17 16,
 oY 18 17 (.mov (.t 0)),
 oY 19 17 (.len (.u 18)),
 oY 20 17 (.bin .leq (.u 19) (xI 128)),
 oU 21 (.pick (.u 17) (.u 20) (.c (.bool false))),
 oV 2 21]
 .ret))
def r161 : List LRes := [.slot 2]
theorem t161 : trOk Tryz.prog Tryz.f161 (vL [0, 2, 3, 7, 13]) c161 r161 := ⟨by kernel_rfl, by kernel_rfl⟩
end Go.Proofs.YtkdblnejpmbnfaaGreat
