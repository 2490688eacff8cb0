/- The functions' bodies as the engine reads them; written by program out of the translation, checked by the kernel. -/
import Derived.Test.YtkdblnejpmbnfaaGreatProg
import Derived.Test.YtkdblnejpmbnfaaGreatV06
import Derived.KernelRfl
import Derived.Test.YtkdblnejpmbnfaaGreatV07
import Derived.Test.YtkdblnejpmbnfaaGreatV08
import Derived.Test.YtkdblnejpmbnfaaGreatRows
import Derived.WalkKit
import Derived.ProofKit
import Derived.OpenShut
import Derived.Deep.DeepHandedRow
namespace Go.Proofs.YtkdblnejpmbnfaaGreat
open Go Go.Lx
set_option maxRecDepth 100000
def c6 : LCode :=
 sR [oT 2 (.mov (.c (.nil)))]
 (sR [oM 3 0,
 oU 4 (.build [.fsl 1 0 [], zI] [(0, 1, .u 3)]),
 oU 5 (.box (.u 4)),
 oV 2 5]
 .ret)
def r6 : List LRes := [.slot 2]
theorem t6 : trOk Tryz.prog Tryz.f6 (vL [0, 2]) c6 r6 := ⟨by kernel_rfl, by kernel_rfl⟩
def c8 : LCode :=
 sR [oB 3 1,
 oI 4 0]
 (.seq (sR [oG 5 2 3,
 oL 6 1 5,
 oU 7 (.lenL (.u 6)),
 oU 8 (.bin .eql (.u 7) (xI 0)),
 oW 9 8,
 oO 10 9 (.mov (.t 0)),
 oO 11 9 (.call 22 [.u 10, xI 24]),
 oO 12 9 (.bin .eql (.u 11) (xI 23)),
 oQ 13 9 12]
 (cT 13
 (sR [oM 14 0,
 oC 15 19 [.u 14, xI 0, xI 9],
 oV 4 15]
 .ret)
 .skip))
 (sD [dF 0 [3] (oG 16 2 3),
 dT 1 [16] (oL 17 1 16),
 dF 2 [0] (oM 18 0),
 dF 3 [3] (oG 19 2 3),
 dT 4 [19] (oL 20 1 19),
 dF 5 [20] (oU 21 (.lenL (.u 20))),
 ⟨6, [18, 21], false, [1], oC 22 22 [.u 18, .u 21]⟩,
 dF 7 [17, 22] (oA 23 14 17 22),
 dF 8 [23] (oF 24 0 23),
 dT 9 [24] (oL 25 1 24),
 dF 10 [25] (oV 4 25)]
 .ret))
def r8 : List LRes := [.slot 4]
theorem t8 : trOk Tryz.prog Tryz.f8 (vL [0, 1, 3, 4, 13]) c8 r8 := ⟨by kernel_rfl, by kernel_rfl⟩
def c9 : LCode :=
 sR [oB 2 0,
 oB 3 1,
 oT 4 (.zero [zI, zI, .fsl 1 0 []]),
 oI 5 0]
 (sR [oK 6 3 2,
 oU 7 (.load false 1 (.t 3)),
 oU 8 (.mkf 24 [.t 3]),
 oC 9 23 [.u 6, .u 7, .u 8],
 oX 10 9 0,
 oX 11 9 1,
 oS 3 4 10,
 oV 5 11]
 .ret)
def r9 : List LRes := [.cell true 3 4, .slot 5]
theorem t9 : trOk Tryz.prog Tryz.f9 (vL [0, 1, 2, 3, 4, 5]) c9 r9 := ⟨by kernel_rfl, by kernel_rfl⟩
def c10 : LCode :=
 sR [oP 0 false]
 (sR [oU 9 (.build [zI, zI] [(1, 1, xI 1)]),
 oC 10 26 [.u 9],
 oT 1 (.zero [zI, zI, .fsl 1 0 []]),
 oS 3 1 10]
 (sR [oK 12 3 1,
 oC 13 27 [.u 12, xI 1],
 oW 11 13,
 oX 14 11 0,
 oX 15 11 1,
 oX 16 11 2,
 oS 3 1 14,
 oV 2 15,
 oV 3 16]
 (sR [oK 18 3 1,
 oM 19 2,
 oC 20 28 [.u 18, .u 19, xI 5],
 oW 17 20,
 oX 21 17 0,
 oX 22 17 1,
 oS 3 1 21,
 oV 4 22]
 (sR [oK 24 3 1,
 oM 25 2,
 oC 26 28 [.u 24, .u 25, xI 0],
 oW 23 26,
 oX 27 23 0,
 oX 28 23 1,
 oU 5 (.zero [zI, zI, .fsl 1 0 []]),
 oR 3 5 27,
 oV 6 28]
 (sR [oK 30 3 1,
 oC 31 17 [.u 30, xI 2],
 oW 29 31,
 oX 32 29 0,
 oX 33 29 1,
 oT 7 (.zero [zI, zI, zI, zI, zI, zI, zI, zI, zI, zI, .str [], .str [], .fsl 1 0 [], .bool false]),
 oS 14 7 32,
 oV 8 33]
 (sR [oM 34 3,
 oU 35 (.bin .eql (.u 34) (xI 0)),
 oW 36 35,
 oY 37 36 (.mov (.t 4)),
 oY 38 36 (.bin .eql (.u 37) (xI 0)),
 oU 39 (.pick (.u 36) (.u 38) (.c (.bool false))),
 oW 40 39,
 oY 41 40 (.mov (.t 6)),
 oY 42 40 (.bin .eql (.u 41) (xI 1)),
 oU 43 (.pick (.u 40) (.u 42) (.c (.bool false))),
 oW 44 43,
 oY 45 44 (.mov (.t 2)),
 oY 46 44 (.bin .eql (.u 45) (xI 2)),
 oU 47 (.pick (.u 44) (.u 46) (.c (.bool false))),
 oW 48 47,
 oY 49 48 (.mov (.t 8)),
 oU 50 (.pick (.u 48) (.u 49) (.c (.bool false))),
 oW 51 50,
 oY 52 51 (.faddr 2 (.t 7)),
 oY 53 51 (.load false 1 (.u 52)),
 oY 54 51 (.bin .eql (.u 53) (xI 5)),
 oU 55 (.pick (.u 51) (.u 54) (.c (.bool false))),
 oW 56 55,
 oY 57 56 (.faddr 1 (.t 7)),
 oY 58 56 (.load false 1 (.u 57)),
 oY 59 56 (.bin .eql (.u 58) (xI 1)),
 oU 60 (.pick (.u 56) (.u 59) (.c (.bool false))),
 oV 0 60]
 .ret))))))
def r10 : List LRes := [.slot 0]
theorem t10 : trOk Tryz.prog Tryz.f10 (vL [0, 1, 2, 3, 4, 6, 7, 8]) c10 r10 := ⟨by kernel_rfl, by kernel_rfl⟩
def c11 : LCode :=
 sR [oB 2 0,
 oT 4 (.zero [zI, zI, zI, zI, zI, zI, zI, zI, zI, zI, .str [], .str [], .fsl 1 0 [], .bool false]),
 oP 5 false]
 (.seq (sR [oI 6 0]
 (.block 0 (.loop (.seq (sR [oM 7 6,
 oG 8 2 2,
 oL 9 1 8,
 oU 10 (.lenL (.u 9)),
 oT 11 (.bin .lss (.u 7) (.u 10))]
 (cT 11
 .skip
 (.exit 0)))
 (.seq (.block 1 (sR [oG 14 2 2,
 oL 15 1 14,
 oM 16 6,
 oA 17 14 15 16,
 oF 18 0 17,
 oL 19 1 18,
 oM 20 1,
 oT 21 (.bin .eql (.u 19) (.u 20))]
 (cT 21
 (sR [oG 22 2 2,
 oL 23 1 22,
 oM 24 6,
 oA 25 14 23 24,
 oJ 26 14 25,
 oC 27 29 [.u 26],
 oS 14 4 27,
 oP 5 true]
 .ret)
 .skip)))
 (.region [oM 12 6,
 oU 13 (.bin .add (.u 12) (xI 1)),
 oV 6 13]))))))
 (sR [oU 28 (.build [zI, zI, zI, zI, zI, zI, zI, zI, zI, zI, .str [], .str [], .fsl 1 0 [], .bool false] []),
 oS 14 4 28,
 oP 5 false]
 .ret))
def r11 : List LRes := [.cell true 14 4, .slot 5]
theorem t11 : trOk Tryz.prog Tryz.f11 (vL [0, 1, 2, 4, 5, 6, 11, 21]) c11 r11 := ⟨by kernel_rfl, by kernel_rfl⟩
def c14 : LCode :=
 sR [oB 1 0,
 oP 2 false]
 (.seq (sR [oG 5 0 1,
 oL 6 1 5,
 oC 7 32 [.u 6],
 oU 8 (.un .not (.u 7)),
 oW 9 8,
 oO 10 9 (.faddr 1 (.t 1)),
 oO 11 9 (.load false 1 (.u 10)),
 oO 12 9 (.call 32 [.u 11]),
 oO 13 9 (.un .not (.u 12)),
 oQ 14 9 13]
 (cT 14
 (sR [oP 2 false]
 .ret)
 .skip))
 (.seq (sR [oG 15 2 1,
 oL 16 1 15,
 oU 17 (.lenL (.u 16)),
 oU 18 (.bin .lss (.u 17) (xI 1)),
 oW 19 18,
 oO 20 19 (.faddr 2 (.t 1)),
 oO 21 19 (.load false 1 (.u 20)),
 oO 22 19 (.lenL (.u 21)),
 oO 23 19 (.bin .gtr (.u 22) (xI 16)),
 oH 24 19 23,
 oW 25 24,
 oO 26 25 (.faddr 2 (.t 1)),
 oO 27 25 (.load false 1 (.u 26)),
 oO 28 25 (.iaS 14 (.u 27) (xI 0)),
 oO 29 25 (.faddr 0 (.u 28)),
 oO 30 25 (.load false 1 (.u 29)),
 oO 31 25 (.bin .neq (.u 30) (xI 1)),
 oQ 32 25 31]
 (cT 32
 (sR [oP 2 false]
 .ret)
 .skip))
 (.seq (sR [oG 33 2 1,
 oT 34 (.load false 1 (.u 33)),
 oT 35 (.lenL (.t 34)),
 oI 36 0]
 (.block 0 (.loop (sR [oT 37 (.bin .lss (.t 36) (.t 35))]
 (.seq (cT 37
 .skip
 (.exit 0))
 (.seq (.block 1 (sR [oM 38 36,
 oU 39 (.iaS 14 (.t 34) (.t 36)),
 oJ 40 14 39,
 oT 4 (.zero [zI, zI, zI, zI, zI, zI, zI, zI, zI, zI, .str [], .str [], .fsl 1 0 [], .bool false]),
 oV 3 38,
 oS 14 4 40]
 (.seq (sD [dF 0 [4] (oG 41 0 4),
 dT 1 [41] (oL 42 1 41),
 dF 2 [1] (oG 43 0 1),
 dT 3 [43] (oL 44 1 43),
 dF 4 [42, 44] (oU 45 (.bin .geq (.u 42) (.u 44))),
 dF 5 [45] (oW 46 45),
 dF 6 [3, 46] (oO 47 46 (.mov (.t 3))),
 dF 7 [47, 46] (oO 48 46 (.bin .gtr (.u 47) (xI 0))),
 dF 8 [48, 46] (oO 49 46 (.mov (.u 48))),
 dF 9 [4, 49] (oY 50 49 (.faddr 0 (.t 4))),
 dT 10 [50, 49] (oY 51 49 (.load false 1 (.u 50))),
 dF 11 [1, 49] (oY 52 49 (.faddr 2 (.t 1))),
 dT 12 [52, 49] (oY 53 49 (.load false 1 (.u 52))),
 dF 13 [3, 49] (oY 54 49 (.mov (.t 3))),
 dF 14 [54, 49] (oY 55 49 (.bin .sub (.u 54) (xI 1))),
 dF 15 [53, 55, 49] (oY 56 49 (.iaS 14 (.u 53) (.u 55))),
 dF 16 [56, 49] (oY 57 49 (.faddr 0 (.u 56))),
 dT 17 [57, 49] (oY 58 49 (.load false 1 (.u 57))),
 dF 18 [51, 58, 49] (oY 59 49 (.bin .leq (.u 51) (.u 58))),
 dF 19 [49, 59, 46] (oO 60 46 (.pick (.u 49) (.u 59) (.c (.bool false)))),
 dF 20 [46, 60] (oQ 61 46 60)]
 (cT 61
 (sR [oP 2 false]
 .ret)
 .skip))
 (sR [oK 62 3 1,
 oK 63 14 4,
 oC 64 33 [.u 62, .u 63],
 oU 65 (.un .not (.u 64)),
 oW 66 65,
 oO 67 66 (.load true 3 (.t 1)),
 oO 68 66 (.load true 14 (.t 4)),
 oO 69 66 (.call 34 [.u 67, .u 68]),
 oO 70 66 (.un .not (.u 69)),
 oH 71 66 70,
 oW 72 71,
 oO 73 72 (.faddr 12 (.t 4)),
 oO 74 72 (.load false 1 (.u 73)),
 oO 75 72 (.call 35 [.u 74]),
 oO 76 72 (.un .not (.u 75)),
 oQ 77 72 76]
 (cT 77
 (sR [oP 2 false]
 .ret)
 .skip)))))
 (.region [oU 78 (.bin .add (.t 36) (xI 1)),
 oV 36 78])))))))
 (sR [oP 2 true]
 .ret))))
def r14 : List LRes := [.slot 2]
theorem t14 : trOk Tryz.prog Tryz.f14 (vL [0, 1, 2, 3, 4, 14, 32, 34, 35, 36, 37, 61, 77]) c14 r14 := ⟨by kernel_rfl, by kernel_rfl⟩
def c15 : LCode :=
 sR [oB 1 0,
 oP 2 false]
 (.seq (sR [oG 4 0 1,
 oL 5 1 4,
 oU 6 (.bin .lss (.u 5) (xI 1)),
 oW 7 6,
 oO 8 7 (.faddr 0 (.t 1)),
 oO 9 7 (.load false 1 (.u 8)),
 oO 10 7 (.bin .gtr (.u 9) (xI 1073741824)),
 oH 11 7 10,
 oW 12 11,
 oO 13 12 (.faddr 1 (.t 1)),
 oO 14 12 (.load false 1 (.u 13)),
 oO 15 12 (.bin .lss (.u 14) (xI 1)),
 oH 16 12 15,
 oW 17 16,
 oO 18 17 (.faddr 1 (.t 1)),
 oO 19 17 (.load false 1 (.u 18)),
 oO 20 17 (.bin .gtr (.u 19) (xI 1073741824)),
 oH 21 17 20,
 oW 22 21,
 oO 23 22 (.faddr 2 (.t 1)),
 oO 24 22 (.load false 1 (.u 23)),
 oO 25 22 (.lenL (.u 24)),
 oO 26 22 (.bin .lss (.u 25) (xI 1)),
 oH 27 22 26,
 oW 28 27,
 oO 29 28 (.faddr 2 (.t 1)),
 oO 30 28 (.load false 1 (.u 29)),
 oO 31 28 (.lenL (.u 30)),
 oO 32 28 (.bin .gtr (.u 31) (xI 16)),
 oQ 33 28 32]
 (cT 33
 (sR [oP 2 false]
 .ret)
 .skip))
 (.seq (sR [oI 3 0]
 (.block 0 (.loop (.seq (sR [oM 34 3,
 oG 35 2 1,
 oL 36 1 35,
 oU 37 (.lenL (.u 36)),
 oT 38 (.bin .lss (.u 34) (.u 37))]
 (cT 38
 .skip
 (.exit 0)))
 (.seq (.block 1 (sR [oK 41 3 1,
 oM 42 3,
 oC 43 36 [.u 41, .u 42],
 oT 44 (.un .not (.u 43))]
 (cT 44
 (sR [oP 2 false]
 .ret)
 .skip)))
 (.region [oM 39 3,
 oU 40 (.bin .add (.u 39) (xI 1)),
 oV 3 40]))))))
 (sR [oP 2 true]
 .ret)))
def r15 : List LRes := [.slot 2]
theorem t15 : trOk Tryz.prog Tryz.f15 (vL [0, 1, 2, 3, 33, 38, 44]) c15 r15 := ⟨by kernel_rfl, by kernel_rfl⟩
def c17 : LCode :=
 sR [oB 2 0,
 oT 4 (.zero [zI, zI, zI, zI, zI, zI, zI, zI, zI, zI, .str [], .str [], .fsl 1 0 [], .bool false]),
 oP 5 false]
 (sR [oK 7 3 2,
 oM 8 1,
 oC 9 58 [.u 7, .u 8],
 oV 6 9]
 (.seq (sR [oM 10 6,
 oT 11 (.bin .lss (.u 10) (xI 0))]
 (cT 11
 (sR [oU 12 (.build [zI, zI, zI, zI, zI, zI, zI, zI, zI, zI, .str [], .str [], .fsl 1 0 [], .bool false] []),
 oS 14 4 12,
 oP 5 false]
 .ret)
 .skip))
 (sR [oG 13 2 2,
 oL 14 1 13,
 oM 15 6,
 oA 16 14 14 15,
 oJ 17 14 16,
 oC 18 59 [.u 17],
 oS 14 4 18,
 oP 5 true]
 .ret)))
def r17 : List LRes := [.cell true 14 4, .slot 5]
theorem t17 : trOk Tryz.prog Tryz.f17 (vL [0, 1, 2, 4, 5, 6, 11]) c17 r17 := ⟨by kernel_rfl, by kernel_rfl⟩
def c19 : LCode :=
 sR [oI 6 0]
 (sR [oM 7 1,
 oM 8 0,
 oM 9 2,
 oM 10 1,
 oU 11 (.bin .sub (.u 9) (.u 10)),
 oU 12 (.bin .add (.u 11) (xI 1)),
 oC 13 22 [.u 8, .u 12],
 oU 14 (.bin .add (.u 7) (.u 13)),
 oV 6 14]
 .ret)
def r19 : List LRes := [.slot 6]
theorem t19 : trOk Tryz.prog Tryz.f19 (vL [0, 1, 2, 6]) c19 r19 := ⟨by kernel_rfl, by kernel_rfl⟩
def c21 : LCode :=
 sR [oT 2 (.zero [zI, zI, zI, zI, zI, .fsl 1 0 [], .fsl 1 0 []])]
 (sR [oM 11 0,
 oU 12 (.mkS 1 26 [zI] [(0, 1, xI 0), (1, 1, xI 1), (2, 1, xI 2), (3, 1, xI 3), (4, 1, xI 4), (5, 1, xI 5), (6, 1, xI 6), (7, 1, xI 6), (8, 1, xI 6), (9, 1, xI 7), (10, 1, xI 8), (11, 1, xI 9), (12, 1, xI 10), (13, 1, xI 11), (14, 1, xI 11), (15, 1, xI 12), (16, 1, xI 13), (17, 1, xI 13), (18, 1, xI 14), (19, 1, xI 15), (20, 1, xI 16), (21, 1, xI 17), (22, 1, xI 18), (23, 1, xI 19), (24, 1, xI 20), (25, 1, xI 21)]),
 oC 13 31 [.u 11, .u 12],
 oU 14 (.build [zI, zI, zI, zI, zI, .fsl 1 0 [], .fsl 1 0 []] [(0, 1, .u 13)]),
 oT 3 (.zero [zI, zI, zI, zI, zI, .fsl 1 0 [], .fsl 1 0 []]),
 oS 7 3 14]
 (sR [oG 16 0 3,
 oL 17 1 16,
 oC 18 67 [.u 17],
 oW 15 18,
 oX 19 15 0,
 oX 20 15 1,
 oX 21 15 2,
 oX 22 15 3,
 oV 4 19,
 oV 5 20,
 oV 6 21,
 oV 7 22]
 (.seq (sR [oI 8 0]
 (.block 0 (.loop (.seq (sR [oM 23 8,
 oM 24 4,
 oT 25 (.bin .lss (.u 23) (.u 24))]
 (cT 25
 .skip
 (.exit 0)))
 (.seq (.block 1 (.region [oM 28 8,
 oM 29 0,
 oU 30 (.mkS 1 8 [zI] [(0, 1, xI 0), (1, 1, xI 1), (2, 1, xI 2), (3, 1, xI 3), (4, 1, xI 5), (5, 1, xI 7), (6, 1, xI 420), (7, 1, xI 493)]),
 oC 31 31 [.u 29, .u 30],
 oG 32 1 3,
 oU 33 (.iaA 4 1 (.u 32) (.u 28)),
 oR 1 33 31]))
 (.region [oM 26 8,
 oU 27 (.bin .add (.u 26) (xI 1)),
 oV 8 27]))))))
 (.seq (sR [oG 34 0 3,
 oT 35 (.load false 1 (.u 34))]
 (.block 2 (sR [oU 37 (.bin .eql (.t 35) (xI 6)),
 oV 36 37]
 (cT 36
 (.region [oM 38 0,
 oU 39 (.mkS 1 12 [zI] [(0, 1, xI 1), (1, 1, xI 2), (2, 1, xI 3), (3, 1, xI 6), (4, 1, xI 6), (5, 1, xI 7), (6, 1, xI 14), (7, 1, xI 22), (8, 1, xI 33), (9, 1, xI 38), (10, 1, xI 0), (11, 1, xI 64)]),
 oC 40 31 [.u 38, .u 39],
 oM 41 0,
 oU 42 (.mkS 1 5 [zI] [(0, 1, xI 420), (1, 1, xI 384), (2, 1, xI 0), (3, 1, xI 511), (4, 1, xI 512)]),
 oC 43 31 [.u 41, .u 42],
 oU 44 (.build [zI, zI, zI, zI] [(0, 1, .u 40), (1, 1, .u 43)]),
 oG 45 1 3,
 oR 4 45 44])
 (sR [oU 47 (.bin .eql (.t 35) (xI 11)),
 oV 46 47]
 (cT 46
 (.region [oM 48 0,
 oU 49 (.mkS 1 4 [zI] [(0, 1, xI 493), (1, 1, xI 511), (2, 1, xI 448), (3, 1, xI 512)]),
 oC 50 31 [.u 48, .u 49],
 oG 51 1 3,
 oU 52 (.iaA 4 1 (.u 51) (xI 0)),
 oR 1 52 50])
 (.seq (sR [oU 54 (.bin .eql (.t 35) (xI 2)),
 oV 53 54]
 (cT 53
 .skip
 (.region [oU 55 (.bin .eql (.t 35) (xI 7)),
 oV 53 55])))
 (cT 53
 (.region [oM 56 0,
 oC 57 22 [.u 56, xI 3],
 oG 58 1 3,
 oU 59 (.iaA 4 1 (.u 58) (xI 0)),
 oR 1 59 57])
 (sR [oU 61 (.bin .eql (.t 35) (xI 20)),
 oV 60 61]
 (cT 60
 (.region [oM 62 0,
 oC 63 19 [.u 62, xI 1, xI 4],
 oM 64 0,
 oU 65 (.mkS 1 5 [zI] [(0, 1, xI 9), (1, 1, xI 0), (2, 1, xI 64), (3, 1, xI 65), (4, 1, xI 9)]),
 oC 66 31 [.u 64, .u 65],
 oU 67 (.build [zI, zI, zI, zI] [(0, 1, .u 63), (1, 1, .u 66)]),
 oG 68 1 3,
 oR 4 68 67])
 .skip))))))))))
 (.seq (sR [oI 9 0]
 (.block 3 (.loop (.seq (sR [oM 69 9,
 oM 70 5,
 oT 71 (.bin .lss (.u 69) (.u 70))]
 (cT 71
 .skip
 (.exit 3)))
 (.seq (.block 4 (.regionD [dF 0 [3] (oG 74 5 3),
 dT 1 [74] (oL 75 1 74),
 dF 2 [0] (oM 76 0),
 ⟨3, [76], false, [1], oC 77 68 [.u 76]⟩,
 dF 4 [77] (oU 78 (.mkS 1 1 [.str []] [(0, 1, .u 77)])),
 dF 5 [75, 78] (oU 79 (.app 1 16 (.u 75) (.u 78))),
 dF 6 [3] (oG 80 5 3),
 dF 7 [80, 79] (oR 1 80 79)]))
 (.region [oM 72 9,
 oU 73 (.bin .add (.u 72) (xI 1)),
 oV 9 73]))))))
 (.seq (sR [oM 81 0,
 oM 82 6,
 oM 83 7,
 oC 84 19 [.u 81, .u 82, .u 83],
 oV 10 84]
 (.block 5 (.loop (.seq (sR [oM 85 10,
 oT 86 (.bin .gtr (.u 85) (xI 0))]
 (cT 86
 .skip
 (.exit 5)))
 (.seq (.block 6 (.regionD [dF 0 [3] (oG 89 6 3),
 dT 1 [89] (oL 90 1 89),
 dF 2 [0] (oM 91 0),
 dF 3 [] (oU 92 (.mkS 1 8 [.str []] [(0, 1, (.c (.str [97]))), (1, 1, (.c (.str [47, 97]))), (2, 1, (.c (.str [98, 47, 99]))), (3, 1, (.c (.str [104, 111, 115, 116]))), (4, 1, (.c (.str []))), (5, 1, (.c (.str [46, 46, 47, 98]))), (6, 1, (.c (.str [47]))), (7, 1, (.c (.str [120, 32, 121])))])),
 ⟨4, [91, 92], false, [1], oC 93 69 [.u 91, .u 92]⟩,
 dF 5 [93] (oU 94 (.mkS 1 1 [.str []] [(0, 1, .u 93)])),
 dF 6 [90, 94] (oU 95 (.app 1 16 (.u 90) (.u 94))),
 dF 7 [3] (oG 96 6 3),
 dF 8 [96, 95] (oR 1 96 95)]))
 (.region [oM 87 10,
 oU 88 (.bin .sub (.u 87) (xI 1)),
 oV 10 88]))))))
 (.seq (sR [oM 97 0,
 oC 98 22 [.u 97, xI 40],
 oT 99 (.bin .eql (.u 98) (xI 39))]
 (cT 99
 (.region [oM 100 0,
 oC 101 22 [.u 100, xI 2],
 oM 102 0,
 oC 103 19 [.u 102, xI (-1), xI 33],
 oG 104 1 3,
 oU 105 (.iaA 4 1 (.u 104) (xI 3)),
 oR 1 105 101,
 oG 106 0 3,
 oR 1 106 103])
 .skip))
 (sR [oK 107 7 3,
 oS 7 2 107]
 .ret))))))))
def r21 : List LRes := [.cell true 7 2]
theorem t21 : trOk Tryz.prog Tryz.f21 (vL [0, 2, 3, 4, 5, 6, 7, 8, 9, 10, 25, 35, 36, 46, 53, 60, 71, 86, 99]) c21 r21 := ⟨by kernel_rfl, by kernel_rfl⟩
def c22 : LCode :=
 sR [oI 4 0]
 (.seq (sR [oM 6 1,
 oT 7 (.bin .lss (.u 6) (xI 1))]
 (cT 7
 (sR [oI 4 0]
 .ret)
 .skip))
 (sR [oM 8 0,
 oZ 9 8,
 oF 10 1 9,
 oL 11 1 10,
 oU 12 (.bin .add (.u 11) (xI 1)),
 oZ 13 8,
 oF 14 1 13,
 oR 1 14 12]
 (sR [oM 15 0,
 oZ 16 15,
 oF 17 1 16,
 oL 18 1 17,
 oU 19 (.bin .mul (.u 18) (xI 7)),
 oV 5 19]
 (.seq (sD [dF 0 [0] (oM 20 0),
 dF 1 [20] (oZ 21 20),
 dF 2 [21] (oF 22 1 21),
 dT 3 [22] (oL 23 1 22),
 dF 4 [0] (oM 24 0),
 dF 5 [24] (oZ 25 24),
 dF 6 [25] (oF 26 0 25),
 dT 7 [26] (oL 27 1 26),
 dF 8 [27] (oU 28 (.lenL (.u 27))),
 dF 9 [23, 28] (oT 29 (.bin .leq (.u 23) (.u 28)))]
 (cT 29
 (.regionD [dF 0 [0] (oM 30 0),
 dF 1 [30] (oZ 31 30),
 dF 2 [31] (oF 32 0 31),
 dT 3 [32] (oL 33 1 32),
 dF 4 [0] (oM 34 0),
 dF 5 [34] (oZ 35 34),
 dF 6 [35] (oF 36 1 35),
 dT 7 [36] (oL 37 1 36),
 dF 8 [37] (oU 38 (.bin .sub (.u 37) (xI 1))),
 dF 9 [33, 38] (oA 39 1 33 38),
 dT 10 [39] (oL 40 1 39),
 dF 11 [40] (oV 5 40)])
 .skip))
 (sR [oM 41 5,
 oM 42 1,
 oU 43 (.bin .rem (.u 41) (.u 42)),
 oV 5 43]
 (.seq (sR [oM 44 5,
 oT 45 (.bin .lss (.u 44) (xI 0))]
 (cT 45
 (.region [oM 46 5,
 oM 47 1,
 oU 48 (.bin .add (.u 46) (.u 47)),
 oV 5 48])
 .skip))
 (sR [oM 49 5,
 oV 4 49]
 .ret)))))))
def r22 : List LRes := [.slot 4]
theorem t22 : trOk Tryz.prog Tryz.f22 (vL [0, 1, 4, 5, 7, 29, 45]) c22 r22 := ⟨by kernel_rfl, by kernel_rfl⟩
def c23 : LCode :=
 sR [oB 3 0,
 oT 6 (.zero [zI, zI, .fsl 1 0 []]),
 oI 7 0]
 (sR [oK 10 3 3,
 oM 11 1,
 oC 12 58 [.u 10, .u 11],
 oV 8 12]
 (.seq (sR [oM 13 8,
 oT 14 (.bin .lss (.u 13) (xI 0))]
 (cT 14
 (sR [oU 15 (.build [zI, zI, .fsl 1 0 []] []),
 oS 3 6 15,
 oI 7 3]
 .ret)
 .skip))
 (sR [oK 16 3 3,
 oC 17 70 [.u 16],
 oS 3 3 17]
 (.seq (sR [oM 18 2,
 oG 19 2 3,
 oL 20 1 19,
 oM 21 8,
 oA 22 14 20 21,
 oU 23 (.callV (.u 18) [.t 3, .u 22]),
 oV 9 23]
 (sR [oM 24 9,
 oT 25 (.bin .neq (.u 24) (xI 0))]
 (cT 25
 (sR [oU 26 (.build [zI, zI, .fsl 1 0 []] []),
 oM 27 9,
 oS 3 6 26,
 oV 7 27]
 .ret)
 .skip)))
 (sR [oK 28 3 3,
 oS 3 6 28,
 oI 7 0]
 .ret)))))
def r23 : List LRes := [.cell true 3 6, .slot 7]
theorem t23 : trOk Tryz.prog Tryz.f23 (vL [0, 1, 2, 3, 6, 7, 8, 9, 14, 25]) c23 r23 := ⟨by kernel_rfl, by kernel_rfl⟩
def c24 : LCode :=
 sR [oI 5 0]
 (.seq (sR [oU 6 (.load false 1 (.t 2)),
 oT 7 (.bin .eql (.u 6) (xI 1))]
 (cT 7
 (sR [oI 5 1]
 .ret)
 .skip))
 (sR [oM 8 0,
 oU 9 (.load false 1 (.t 2)),
 oC 10 25 [.u 8, .u 9]]
 (sR [oI 5 0]
 .ret)))
def r24 : List LRes := [.slot 5]
theorem t24 : trOk Tryz.prog Tryz.f24 (vL [0, 1, 2, 5, 7]) c24 r24 := ⟨by kernel_rfl, by kernel_rfl⟩
def c25 : LCode :=
 sR [oM 6 0,
 oZ 7 6,
 oJ 8 3 7,
 oM 9 1,
 oC 10 58 [.u 8, .u 9],
 oV 4 10]
 (.seq (sR [oM 11 4,
 oT 12 (.bin .lss (.u 11) (xI 0))]
 (cT 12
 .ret
 .skip))
 (sR [oM 13 0,
 oM 14 0,
 oZ 15 14,
 oF 16 2 15,
 oL 17 1 16,
 oM 18 4,
 oM 19 4,
 oU 20 (.bin .add (.u 19) (xI 1)),
 oC 21 71 [.u 17, .u 18, .u 20],
 oZ 22 13,
 oF 23 2 22,
 oR 1 23 21]
 (sR [oM 24 0,
 oZ 25 24,
 oF 26 2 25,
 oL 27 1 26,
 oT 28 (.lenL (.u 27)),
 oI 29 0]
 (.block 0 (.loop (sR [oT 30 (.bin .lss (.t 29) (.t 28))]
 (.seq (cT 30
 .skip
 (.exit 0))
 (.seq (.block 1 (sR [oM 31 29,
 oV 5 31]
 (sR [oM 32 0,
 oZ 33 32,
 oF 34 2 33,
 oL 35 1 34,
 oM 36 5,
 oA 37 14 35 36,
 oF 38 1 37,
 oL 39 1 38,
 oM 40 1,
 oT 41 (.bin .eql (.u 39) (.u 40))]
 (cT 41
 (.region [oM 42 0,
 oZ 43 42,
 oF 44 2 43,
 oL 45 1 44,
 oM 46 5,
 oA 47 14 45 46,
 oF 48 1 47,
 oN (.store 1 (.u 48) (xI 1))])
 .skip))))
 (.region [oU 49 (.bin .add (.t 29) (xI 1)),
 oV 29 49])))))))))
def r25 : List LRes := []
theorem t25 : trOk Tryz.prog Tryz.f25 (vL [0, 1, 4, 5, 12, 28, 29, 30, 41]) c25 r25 := ⟨by kernel_rfl, by kernel_rfl⟩
def c26 : LCode :=
 sR [oB 1 0,
 oT 2 (.zero [zI, zI, .fsl 1 0 []])]
 (sR [oK 4 2 1,
 oU 5 (.build [zI, zI, zI, zI, zI, zI, zI, zI, zI, zI, .str [], .str [], .fsl 1 0 [], .bool false] [(0, 1, xI 1), (6, 1, xI 4294967295), (7, 1, xI 4294967295), (8, 2, .u 4), (10, 1, (.c (.str [105, 110, 105, 116]))), (11, 1, (.c (.str [47, 105, 110, 105, 116]))), (13, 1, (.c (.bool true)))]),
 oT 3 (.zero [zI, zI, zI, zI, zI, zI, zI, zI, zI, zI, .str [], .str [], .fsl 1 0 [], .bool false]),
 oS 14 3 5]
 (sR [oK 6 14 3,
 oU 7 (.mkS 14 1 [zI, zI, zI, zI, zI, zI, zI, zI, zI, zI, .str [], .str [], .fsl 1 0 [], .bool false] [(0, 14, .u 6)]),
 oU 8 (.build [zI, zI, .fsl 1 0 []] [(0, 1, xI 2), (1, 1, xI 1), (2, 1, .u 7)]),
 oS 3 2 8]
 .ret))
def r26 : List LRes := [.cell true 3 2]
theorem t26 : trOk Tryz.prog Tryz.f26 (vL [0, 1, 2, 3]) c26 r26 := ⟨by kernel_rfl, by kernel_rfl⟩
def c27 : LCode :=
 sR [oB 2 0,
 oB 3 1,
 oT 4 (.zero [zI, zI, .fsl 1 0 []]),
 oI 5 0,
 oI 6 0]
 (sR [oG 9 0 2,
 oL 10 1 9,
 oT 7 (.zero [zI]),
 oS 1 7 10]
 (sR [oK 12 3 2,
 oU 13 (.load false 1 (.t 3)),
 oU 14 (.mkf 72 [.t 7, .t 3]),
 oC 15 23 [.u 12, .u 13, .u 14],
 oW 11 15,
 oX 16 11 0,
 oX 17 11 1,
 oS 3 2 16,
 oV 8 17]
 (.seq (sR [oM 18 8,
 oT 19 (.bin .neq (.u 18) (xI 0))]
 (cT 19
 (sR [oU 20 (.build [zI, zI, .fsl 1 0 []] []),
 oM 21 8,
 oS 3 4 20,
 oI 5 0,
 oV 6 21]
 .ret)
 .skip))
 (sD [dT 0 [2] (oK 22 3 2),
 dT 1 [7] (oU 23 (.load false 1 (.t 7))),
 ⟨2, [4, 22], false, [1], oS 3 4 22⟩,
 dF 3 [23] (oV 5 23),
 dF 4 [] (oI 6 0)]
 .ret))))
def r27 : List LRes := [.cell true 3 4, .slot 5, .slot 6]
theorem t27 : trOk Tryz.prog Tryz.f27 (vL [0, 1, 2, 3, 4, 5, 6, 7, 8, 19]) c27 r27 := ⟨by kernel_rfl, by kernel_rfl⟩
def c28 : LCode :=
 sR [oB 3 0,
 oB 5 2,
 oT 6 (.zero [zI, zI, .fsl 1 0 []]),
 oI 7 0]
 (sR [oK 8 3 3,
 oM 9 1,
 oU 10 (.mkf 73 [.t 5]),
 oC 11 23 [.u 8, .u 9, .u 10],
 oX 12 11 0,
 oX 13 11 1,
 oS 3 6 12,
 oV 7 13]
 .ret)
def r28 : List LRes := [.cell true 3 6, .slot 7]
theorem t28 : trOk Tryz.prog Tryz.f28 (vL [0, 1, 2, 3, 5, 6, 7]) c28 r28 := ⟨by kernel_rfl, by kernel_rfl⟩
def c29 : LCode :=
 sR [oB 1 0,
 oT 2 (.zero [zI, zI, zI, zI, zI, zI, zI, zI, zI, zI, .str [], .str [], .fsl 1 0 [], .bool false])]
 (sR [oG 3 12 1,
 oL 4 1 3,
 oU 5 (.app 4 32 (.c (.fsl 1 0 [])) (.u 4)),
 oG 6 12 1,
 oR 1 6 5]
 (sR [oK 7 14 1,
 oS 14 2 7]
 .ret))
def r29 : List LRes := [.cell true 14 2]
theorem t29 : trOk Tryz.prog Tryz.f29 (vL [0, 1, 2]) c29 r29 := ⟨by kernel_rfl, by kernel_rfl⟩
def c30 : LCode :=
 sR [oB 1 0,
 oT 2 (.zero [zI, zI, .fsl 1 0 []])]
 (sR [oG 5 0 1,
 oL 6 1 5,
 oG 7 1 1,
 oL 8 1 7,
 oU 9 (.build [zI, zI, .fsl 1 0 []] [(0, 1, .u 6), (1, 1, .u 8)]),
 oT 3 (.zero [zI, zI, .fsl 1 0 []]),
 oS 3 3 9]
 (.seq (sR [oI 4 0]
 (.block 0 (.loop (.seq (sR [oM 10 4,
 oG 11 2 1,
 oL 12 1 11,
 oU 13 (.lenL (.u 12)),
 oT 14 (.bin .lss (.u 10) (.u 13))]
 (cT 14
 .skip
 (.exit 0)))
 (.seq (.block 1 (.regionD [dF 0 [3] (oG 17 2 3),
 dT 1 [17] (oL 18 1 17),
 dF 2 [1] (oG 19 2 1),
 dT 3 [19] (oL 20 1 19),
 dF 4 [4] (oM 21 4),
 dF 5 [20, 21] (oA 22 14 20 21),
 dT 6 [22] (oJ 23 14 22),
 ⟨7, [23], false, [1], oC 24 29 [.u 23]⟩,
 dF 8 [24] (oU 25 (.mkS 14 1 [zI, zI, zI, zI, zI, zI, zI, zI, zI, zI, .str [], .str [], .fsl 1 0 [], .bool false] [(0, 14, .u 24)])),
 dF 9 [18, 25] (oU 26 (.app 14 144 (.u 18) (.u 25))),
 dF 10 [3] (oG 27 2 3),
 dF 11 [27, 26] (oR 1 27 26)]))
 (.region [oM 15 4,
 oU 16 (.bin .add (.u 15) (xI 1)),
 oV 4 16]))))))
 (sR [oK 28 3 3,
 oS 3 2 28]
 .ret)))
def r30 : List LRes := [.cell true 3 2]
theorem t30 : trOk Tryz.prog Tryz.f30 (vL [0, 1, 2, 3, 4, 14]) c30 r30 := ⟨by kernel_rfl, by kernel_rfl⟩
def c31 : LCode :=
 sR [oI 4 0]
 (sR [oM 5 1,
 oM 6 0,
 oM 7 1,
 oU 8 (.lenL (.u 7)),
 oC 9 22 [.u 6, .u 8],
 oA 10 1 5 9,
 oL 11 1 10,
 oV 4 11]
 .ret)
def r31 : List LRes := [.slot 4]
theorem t31 : trOk Tryz.prog Tryz.f31 (vL [0, 1, 4]) c31 r31 := ⟨by kernel_rfl, by kernel_rfl⟩
def c32 : LCode :=
 sR [oP 2 false]
 (sR [oM 3 0,
 oU 4 (.bin .geq (.u 3) (xI 1)),
 oW 5 4,
 oY 6 5 (.mov (.t 0)),
 oY 7 5 (.bin .leq (.u 6) (xI 1073741824)),
 oU 8 (.pick (.u 5) (.u 7) (.c (.bool false))),
 oV 2 8]
 .ret)
def r32 : List LRes := [.slot 2]
theorem t32 : trOk Tryz.prog Tryz.f32 (vL [0, 2]) c32 r32 := ⟨by kernel_rfl, by kernel_rfl⟩
def c33 : LCode :=
 sR [oB 2 0,
 oB 3 1,
 oP 4 false]
 (.seq (sR [oG 5 0 3,
 oL 6 1 5,
 oT 7 (.bin .eql (.u 6) (xI 1))]
 (cT 7
 (sR [oG 8 1 3,
 oL 9 1 8,
 oU 10 (.bin .eql (.u 9) (xI 0)),
 oV 4 10]
 .ret)
 .skip))
 (sR [oG 11 1 3,
 oL 12 1 11,
 oG 13 0 3,
 oL 14 1 13,
 oU 15 (.bin .lss (.u 12) (.u 14)),
 oW 16 15,
 oY 17 16 (.load true 3 (.t 2)),
 oY 18 16 (.faddr 1 (.t 3)),
 oY 19 16 (.load false 1 (.u 18)),
 oY 20 16 (.call 58 [.u 17, .u 19]),
 oY 21 16 (.bin .geq (.u 20) (xI 0)),
 oU 22 (.pick (.u 16) (.u 21) (.c (.bool false))),
 oV 4 22]
 .ret))
def r33 : List LRes := [.slot 4]
theorem t33 : trOk Tryz.prog Tryz.f33 (vL [0, 1, 2, 3, 4, 7]) c33 r33 := ⟨by kernel_rfl, by kernel_rfl⟩
def c34 : LCode :=
 sR [oB 2 0,
 oB 3 1,
 oP 4 false]
 (.seq (sR [oG 5 2 3,
 oL 6 1 5,
 oC 7 75 [.u 6],
 oU 8 (.un .not (.u 7)),
 oW 9 8,
 oO 10 9 (.faddr 3 (.t 3)),
 oO 11 9 (.load false 1 (.u 10)),
 oO 12 9 (.call 75 [.u 11]),
 oO 13 9 (.un .not (.u 12)),
 oH 14 9 13,
 oW 15 14,
 oO 16 15 (.faddr 4 (.t 3)),
 oO 17 15 (.load false 1 (.u 16)),
 oO 18 15 (.call 75 [.u 17]),
 oO 19 15 (.un .not (.u 18)),
 oH 20 15 19,
 oW 21 20,
 oO 22 21 (.faddr 5 (.t 3)),
 oO 23 21 (.load false 1 (.u 22)),
 oO 24 21 (.call 75 [.u 23]),
 oO 25 21 (.un .not (.u 24)),
 oQ 26 21 25]
 (cT 26
 (sR [oP 4 false]
 .ret)
 .skip))
 (.seq (sR [oG 27 6 3,
 oL 28 1 27,
 oU 29 (.bin .lss (.u 28) (xI 0)),
 oW 30 29,
 oO 31 30 (.faddr 6 (.t 3)),
 oO 32 30 (.load false 1 (.u 31)),
 oO 33 30 (.bin .gtr (.u 32) (xI 4294967295)),
 oQ 34 30 33]
 (cT 34
 (sR [oP 4 false]
 .ret)
 .skip))
 (sR [oG 35 7 3,
 oL 36 1 35,
 oU 37 (.bin .eql (.u 36) (xI 4294967295)),
 oW 38 37,
 oO 39 38 (.faddr 7 (.t 3)),
 oO 40 38 (.load false 1 (.u 39)),
 oO 41 38 (.bin .geq (.u 40) (xI 0)),
 oO 42 38 (.mov (.u 41)),
 oY 43 42 (.faddr 7 (.t 3)),
 oY 44 42 (.load false 1 (.u 43)),
 oY 45 42 (.faddr 1 (.t 2)),
 oY 46 42 (.load false 1 (.u 45)),
 oY 47 42 (.bin .lss (.u 44) (.u 46)),
 oO 48 38 (.pick (.u 42) (.u 47) (.c (.bool false))),
 oH 49 38 48,
 oV 4 49]
 .ret)))
def r34 : List LRes := [.slot 4]
theorem t34 : trOk Tryz.prog Tryz.f34 (vL [0, 1, 2, 3, 4, 26, 34]) c34 r34 := ⟨by kernel_rfl, by kernel_rfl⟩
def c35 : LCode :=
 sR [oP 2 false]
 (.seq (sR [oM 5 0,
 oU 6 (.lenL (.u 5)),
 oT 7 (.bin .gtr (.u 6) (xI 8))]
 (cT 7
 (sR [oP 2 false]
 .ret)
 .skip))
 (.seq (sR [oT 8 (.mov (.t 0)),
 oT 9 (.lenL (.t 8)),
 oI 10 0]
 (.block 0 (.loop (sR [oT 11 (.bin .lss (.t 10) (.t 9))]
 (.seq (cT 11
 .skip
 (.exit 0))
 (.seq (.block 1 (sR [oM 12 10,
 oU 13 (.iaS 4 (.t 8) (.t 10)),
 oJ 14 4 13,
 oT 4 (.zero [zI, zI, zI, zI]),
 oV 3 12,
 oS 4 4 14]
 (sD [dF 0 [4] (oG 15 0 4),
 dT 1 [15] (oL 16 1 15),
 dF 2 [16] (oU 17 (.bin .lss (.u 16) (xI 0))),
 dF 3 [17] (oW 18 17),
 dF 4 [4, 18] (oO 19 18 (.faddr 0 (.t 4))),
 dT 5 [19, 18] (oO 20 18 (.load false 1 (.u 19))),
 dF 6 [20, 18] (oO 21 18 (.bin .geq (.u 20) (xI 8))),
 dF 7 [18, 21] (oH 22 18 21),
 dF 8 [22] (oW 23 22),
 dF 9 [3, 23] (oO 24 23 (.mov (.t 3))),
 dF 10 [24, 23] (oO 25 23 (.bin .gtr (.u 24) (xI 0))),
 dF 11 [25, 23] (oO 26 23 (.mov (.u 25))),
 dF 12 [4, 26] (oY 27 26 (.faddr 0 (.t 4))),
 dT 13 [27, 26] (oY 28 26 (.load false 1 (.u 27))),
 dF 14 [0, 26] (oY 29 26 (.mov (.t 0))),
 dF 15 [3, 26] (oY 30 26 (.mov (.t 3))),
 dF 16 [30, 26] (oY 31 26 (.bin .sub (.u 30) (xI 1))),
 dF 17 [29, 31, 26] (oY 32 26 (.iaS 4 (.u 29) (.u 31))),
 dF 18 [32, 26] (oY 33 26 (.faddr 0 (.u 32))),
 dT 19 [33, 26] (oY 34 26 (.load false 1 (.u 33))),
 dF 20 [28, 34, 26] (oY 35 26 (.bin .leq (.u 28) (.u 34))),
 dF 21 [26, 35, 23] (oO 36 23 (.pick (.u 26) (.u 35) (.c (.bool false)))),
 dF 22 [23, 36] (oQ 37 23 36)]
 (cT 37
 (sR [oP 2 false]
 .ret)
 .skip))))
 (.region [oU 38 (.bin .add (.t 10) (xI 1)),
 oV 10 38])))))))
 (sR [oP 2 true]
 .ret)))
def r35 : List LRes := [.slot 2]
theorem t35 : trOk Tryz.prog Tryz.f35 (vL [0, 2, 3, 4, 7, 8, 9, 10, 11, 37]) c35 r35 := ⟨by kernel_rfl, by kernel_rfl⟩
def c36 : LCode :=
 sR [oB 2 0,
 oP 4 false]
 (sR [oG 9 2 2,
 oL 10 1 9,
 oM 11 1,
 oA 12 14 10 11,
 oJ 13 14 12,
 oT 5 (.zero [zI, zI, zI, zI, zI, zI, zI, zI, zI, zI, .str [], .str [], .fsl 1 0 [], .bool false]),
 oS 14 5 13]
 (.seq (sD [dF 0 [1] (oM 14 1),
 dF 1 [14] (oU 15 (.bin .eql (.u 14) (xI 0))),
 dF 2 [15] (oW 16 15),
 dF 3 [5, 16] (oY 17 16 (.faddr 0 (.t 5))),
 dT 4 [17, 16] (oY 18 16 (.load false 1 (.u 17))),
 dF 5 [18, 16] (oY 19 16 (.bin .neq (.u 18) (xI 1))),
 dF 6 [19, 16] (oY 20 16 (.mov (.u 19))),
 dF 7 [5, 20] (oO 21 20 (.faddr 1 (.t 5))),
 dT 8 [21, 20] (oO 22 20 (.load false 1 (.u 21))),
 dF 9 [22, 20] (oO 23 20 (.bin .neq (.u 22) (xI 0))),
 dF 10 [20, 23, 16] (oY 24 16 (.pick (.u 20) (.c (.bool true)) (.u 23))),
 dF 11 [16, 24] (oU 25 (.pick (.u 16) (.u 24) (.c (.bool false)))),
 dF 12 [25] (oW 26 25),
 dF 13 [1, 26] (oO 27 26 (.mov (.t 1))),
 dF 14 [27, 26] (oO 28 26 (.bin .gtr (.u 27) (xI 0))),
 dF 15 [28, 26] (oO 29 26 (.mov (.u 28))),
 dF 16 [2, 29] (oY 30 29 (.faddr 2 (.t 2))),
 dT 17 [30, 29] (oY 31 29 (.load false 1 (.u 30))),
 dF 18 [1, 29] (oY 32 29 (.mov (.t 1))),
 dF 19 [32, 29] (oY 33 29 (.bin .sub (.u 32) (xI 1))),
 dF 20 [31, 33, 29] (oY 34 29 (.iaS 14 (.u 31) (.u 33))),
 dF 21 [34, 29] (oY 35 29 (.faddr 0 (.u 34))),
 dT 22 [35, 29] (oY 36 29 (.load false 1 (.u 35))),
 dF 23 [5, 29] (oY 37 29 (.faddr 0 (.t 5))),
 dT 24 [37, 29] (oY 38 29 (.load false 1 (.u 37))),
 dF 25 [36, 38, 29] (oY 39 29 (.bin .geq (.u 36) (.u 38))),
 dF 26 [29, 39, 26] (oO 40 26 (.pick (.u 29) (.u 39) (.c (.bool false)))),
 dF 27 [26, 40] (oH 41 26 40),
 dF 28 [41] (oW 42 41),
 dF 29 [5, 42] (oO 43 42 (.faddr 0 (.t 5))),
 dT 30 [43, 42] (oO 44 42 (.load false 1 (.u 43))),
 dF 31 [2, 42] (oO 45 42 (.faddr 0 (.t 2))),
 dT 32 [45, 42] (oO 46 42 (.load false 1 (.u 45))),
 dF 33 [44, 46, 42] (oO 47 42 (.bin .geq (.u 44) (.u 46))),
 dF 34 [42, 47] (oQ 48 42 47)]
 (cT 48
 (sR [oP 4 false]
 .ret)
 .skip))
 (.seq (sR [oM 49 1,
 oT 50 (.bin .gtr (.u 49) (xI 0))]
 (cT 50
 (sR [oK 52 3 2,
 oG 53 1 5,
 oL 54 1 53,
 oC 55 11 [.u 52, .u 54],
 oW 51 55,
 oX 56 51 0,
 oX 57 51 1,
 oU 6 (.zero [zI, zI, zI, zI, zI, zI, zI, zI, zI, zI, .str [], .str [], .fsl 1 0 [], .bool false]),
 oR 14 6 56,
 oV 7 57]
 (sR [oM 58 7,
 oU 59 (.un .not (.u 58)),
 oW 60 59,
 oO 61 60 (.faddr 1 (.t 5)),
 oO 62 60 (.load false 1 (.u 61)),
 oO 63 60 (.faddr 0 (.t 5)),
 oO 64 60 (.load false 1 (.u 63)),
 oO 65 60 (.bin .geq (.u 62) (.u 64)),
 oQ 66 60 65]
 (cT 66
 (sR [oP 4 false]
 .ret)
 .skip)))
 .skip))
 (.seq (sR [oG 67 2 5,
 oL 68 1 67,
 oC 69 76 [.u 68],
 oU 70 (.un .not (.u 69)),
 oW 71 70,
 oO 72 71 (.faddr 3 (.t 5)),
 oO 73 71 (.load false 1 (.u 72)),
 oO 74 71 (.call 76 [.u 73]),
 oO 75 71 (.un .not (.u 74)),
 oH 76 71 75,
 oW 77 76,
 oO 78 77 (.faddr 4 (.t 5)),
 oO 79 77 (.load false 1 (.u 78)),
 oO 80 77 (.call 76 [.u 79]),
 oO 81 77 (.un .not (.u 80)),
 oH 82 77 81,
 oW 83 82,
 oO 84 83 (.faddr 5 (.t 5)),
 oO 85 83 (.load false 1 (.u 84)),
 oO 86 83 (.call 76 [.u 85]),
 oO 87 83 (.un .not (.u 86)),
 oH 88 83 87,
 oW 89 88,
 oO 90 89 (.faddr 6 (.t 5)),
 oO 91 89 (.load false 1 (.u 90)),
 oO 92 89 (.bin .lss (.u 91) (xI 0)),
 oH 93 89 92,
 oW 94 93,
 oO 95 94 (.faddr 6 (.t 5)),
 oO 96 94 (.load false 1 (.u 95)),
 oO 97 94 (.bin .gtr (.u 96) (xI 4294967295)),
 oH 98 94 97,
 oW 99 98,
 oO 100 99 (.faddr 7 (.t 5)),
 oO 101 99 (.load false 1 (.u 100)),
 oO 102 99 (.bin .neq (.u 101) (xI 4294967295)),
 oO 103 99 (.mov (.u 102)),
 oY 104 103 (.faddr 7 (.t 5)),
 oY 105 103 (.load false 1 (.u 104)),
 oY 106 103 (.bin .lss (.u 105) (xI 0)),
 oY 107 103 (.mov (.u 106)),
 oO 108 107 (.faddr 7 (.t 5)),
 oO 109 107 (.load false 1 (.u 108)),
 oO 110 107 (.faddr 1 (.t 2)),
 oO 111 107 (.load false 1 (.u 110)),
 oO 112 107 (.bin .geq (.u 109) (.u 111)),
 oY 113 103 (.pick (.u 107) (.c (.bool true)) (.u 112)),
 oO 114 99 (.pick (.u 103) (.u 113) (.c (.bool false))),
 oQ 115 99 114]
 (cT 115
 (sR [oP 4 false]
 .ret)
 .skip))
 (.seq (sR [oI 8 0]
 (.block 0 (.loop (.seq (sR [oM 116 8,
 oG 117 12 5,
 oL 118 1 117,
 oU 119 (.lenL (.u 118)),
 oT 120 (.bin .lss (.u 116) (.u 119))]
 (cT 120
 .skip
 (.exit 0)))
 (.seq (.block 1 (sD [dF 0 [5] (oG 123 12 5),
 dT 1 [123] (oL 124 1 123),
 dF 2 [8] (oM 125 8),
 dF 3 [124, 125] (oA 126 4 124 125),
 dF 4 [126] (oF 127 0 126),
 dT 5 [127] (oL 128 1 127),
 dF 6 [128] (oU 129 (.bin .lss (.u 128) (xI 0))),
 dF 7 [129] (oW 130 129),
 dF 8 [5, 130] (oO 131 130 (.faddr 12 (.t 5))),
 dT 9 [131, 130] (oO 132 130 (.load false 1 (.u 131))),
 dF 10 [8, 130] (oO 133 130 (.mov (.t 8))),
 dF 11 [132, 133, 130] (oO 134 130 (.iaS 4 (.u 132) (.u 133))),
 dF 12 [134, 130] (oO 135 130 (.faddr 0 (.u 134))),
 dT 13 [135, 130] (oO 136 130 (.load false 1 (.u 135))),
 dF 14 [136, 130] (oO 137 130 (.bin .geq (.u 136) (xI 8))),
 dF 15 [130, 137] (oH 138 130 137),
 dF 16 [138] (oW 139 138),
 dF 17 [8, 139] (oO 140 139 (.mov (.t 8))),
 dF 18 [140, 139] (oO 141 139 (.bin .gtr (.u 140) (xI 0))),
 dF 19 [141, 139] (oO 142 139 (.mov (.u 141))),
 dF 20 [5, 142] (oY 143 142 (.faddr 12 (.t 5))),
 dT 21 [143, 142] (oY 144 142 (.load false 1 (.u 143))),
 dF 22 [8, 142] (oY 145 142 (.mov (.t 8))),
 dF 23 [145, 142] (oY 146 142 (.bin .sub (.u 145) (xI 1))),
 dF 24 [144, 146, 142] (oY 147 142 (.iaS 4 (.u 144) (.u 146))),
 dF 25 [147, 142] (oY 148 142 (.faddr 0 (.u 147))),
 dT 26 [148, 142] (oY 149 142 (.load false 1 (.u 148))),
 dF 27 [5, 142] (oY 150 142 (.faddr 12 (.t 5))),
 dT 28 [150, 142] (oY 151 142 (.load false 1 (.u 150))),
 dF 29 [8, 142] (oY 152 142 (.mov (.t 8))),
 dF 30 [151, 152, 142] (oY 153 142 (.iaS 4 (.u 151) (.u 152))),
 dF 31 [153, 142] (oY 154 142 (.faddr 0 (.u 153))),
 dT 32 [154, 142] (oY 155 142 (.load false 1 (.u 154))),
 dF 33 [149, 155, 142] (oY 156 142 (.bin .geq (.u 149) (.u 155))),
 dF 34 [142, 156, 139] (oO 157 139 (.pick (.u 142) (.u 156) (.c (.bool false)))),
 dF 35 [139, 157] (oQ 158 139 157)]
 (cT 158
 (sR [oP 4 false]
 .ret)
 .skip)))
 (.region [oM 121 8,
 oU 122 (.bin .add (.u 121) (xI 1)),
 oV 8 122]))))))
 (sR [oP 4 true]
 .ret))))))
def r36 : List LRes := [.slot 4]
theorem t36 : trOk Tryz.prog Tryz.f36 (vL [0, 1, 2, 4, 5, 7, 8, 48, 50, 66, 115, 120, 158]) c36 r36 := ⟨by kernel_rfl, by kernel_rfl⟩
def c37 : LCode :=
 sR [oB 2 0,
 oT 4 (.zero [zI, zI, .fsl 1 0 []]),
 oI 5 0,
 oI 6 0]
 (sR [oK 11 3 2,
 oM 12 1,
 oC 13 11 [.u 11, .u 12],
 oW 10 13,
 oX 14 10 0,
 oX 15 10 1,
 oT 7 (.zero [zI, zI, zI, zI, zI, zI, zI, zI, zI, zI, .str [], .str [], .fsl 1 0 [], .bool false]),
 oS 14 7 14,
 oV 8 15]
 (.seq (sR [oM 16 8,
 oT 17 (.un .not (.u 16))]
 (cT 17
 (sR [oU 18 (.build [zI, zI, .fsl 1 0 []] []),
 oS 3 4 18,
 oI 5 0,
 oI 6 3]
 .ret)
 .skip))
 (.seq (sR [oG 19 2 2,
 oL 20 1 19,
 oU 21 (.lenL (.u 20)),
 oU 22 (.bin .geq (.u 21) (xI 16)),
 oW 23 22,
 oO 24 23 (.faddr 0 (.t 2)),
 oO 25 23 (.load false 1 (.u 24)),
 oO 26 23 (.bin .eql (.u 25) (xI 1073741824)),
 oQ 27 23 26]
 (cT 27
 (sR [oU 28 (.build [zI, zI, .fsl 1 0 []] []),
 oS 3 4 28,
 oI 5 0,
 oI 6 11]
 .ret)
 .skip))
 (sR [oG 29 0 2,
 oL 30 1 29,
 oM 31 1,
 oG 32 0 7,
 oR 1 32 30,
 oG 33 1 7,
 oR 1 33 31]
 (sR [oK 34 3 2,
 oC 35 30 [.u 34],
 oT 9 (.zero [zI, zI, .fsl 1 0 []]),
 oS 3 9 35]
 (sR [oG 36 0 9,
 oL 37 1 36,
 oU 38 (.bin .add (.u 37) (xI 1)),
 oG 39 0 9,
 oR 1 39 38]
 (sR [oG 40 2 9,
 oL 41 1 40,
 oK 42 14 7,
 oU 43 (.mkS 14 1 [zI, zI, zI, zI, zI, zI, zI, zI, zI, zI, .str [], .str [], .fsl 1 0 [], .bool false] [(0, 14, .u 42)]),
 oU 44 (.app 14 144 (.u 41) (.u 43)),
 oG 45 2 9,
 oR 1 45 44]
 (sD [dT 0 [9] (oK 46 3 9),
 dF 1 [7] (oG 47 0 7),
 dT 2 [47] (oL 48 1 47),
 ⟨3, [4, 46], false, [2], oS 3 4 46⟩,
 dF 4 [48] (oV 5 48),
 dF 5 [] (oI 6 0)]
 .ret))))))))
def r37 : List LRes := [.cell true 3 4, .slot 5, .slot 6]
theorem t37 : trOk Tryz.prog Tryz.f37 (vL [0, 1, 2, 4, 5, 6, 7, 8, 9, 17, 27]) c37 r37 := ⟨by kernel_rfl, by kernel_rfl⟩
def c38 : LCode :=
 sR [oB 2 0,
 oT 4 (.zero [zI, zI, .fsl 1 0 []]),
 oI 5 0]
 (.seq (sR [oK 12 3 2,
 oM 13 1,
 oC 14 11 [.u 12, .u 13],
 oW 11 14,
 oX 15 11 0,
 oX 16 11 1,
 oU 6 (.zero [zI, zI, zI, zI, zI, zI, zI, zI, zI, zI, .str [], .str [], .fsl 1 0 [], .bool false]),
 oR 14 6 15,
 oV 7 16]
 (sR [oM 17 7,
 oT 18 (.un .not (.u 17))]
 (cT 18
 (sR [oU 19 (.build [zI, zI, .fsl 1 0 []] []),
 oS 3 4 19,
 oI 5 3]
 .ret)
 .skip)))
 (.seq (sR [oM 20 1,
 oT 21 (.bin .eql (.u 20) (xI 1))]
 (cT 21
 (sR [oU 22 (.build [zI, zI, .fsl 1 0 []] []),
 oS 3 4 22,
 oI 5 1]
 .ret)
 .skip))
 (sR [oG 23 0 2,
 oL 24 1 23,
 oG 25 1 2,
 oL 26 1 25,
 oU 27 (.build [zI, zI, .fsl 1 0 []] [(0, 1, .u 24), (1, 1, .u 26)]),
 oT 8 (.zero [zI, zI, .fsl 1 0 []]),
 oS 3 8 27]
 (.seq (sR [oI 9 0]
 (.block 0 (.loop (.seq (sR [oM 28 9,
 oG 29 2 2,
 oL 30 1 29,
 oU 31 (.lenL (.u 30)),
 oT 32 (.bin .lss (.u 28) (.u 31))]
 (cT 32
 .skip
 (.exit 0)))
 (.seq (.block 1 (sR [oG 35 2 2,
 oL 36 1 35,
 oM 37 9,
 oA 38 14 36 37,
 oJ 39 14 38,
 oC 40 29 [.u 39],
 oT 10 (.zero [zI, zI, zI, zI, zI, zI, zI, zI, zI, zI, .str [], .str [], .fsl 1 0 [], .bool false]),
 oS 14 10 40]
 (.seq (sR [oG 41 1 10,
 oL 42 1 41,
 oM 43 1,
 oT 44 (.bin .eql (.u 42) (.u 43))]
 (cT 44
 (.region [oG 45 1 10,
 oN (.store 1 (.u 45) (xI 1))])
 .skip))
 (sR [oG 46 0 10,
 oL 47 1 46,
 oM 48 1,
 oT 49 (.bin .neq (.u 47) (.u 48))]
 (cT 49
 (.region [oG 50 2 8,
 oL 51 1 50,
 oK 52 14 10,
 oU 53 (.mkS 14 1 [zI, zI, zI, zI, zI, zI, zI, zI, zI, zI, .str [], .str [], .fsl 1 0 [], .bool false] [(0, 14, .u 52)]),
 oU 54 (.app 14 144 (.u 51) (.u 53)),
 oG 55 2 8,
 oR 1 55 54])
 .skip)))))
 (.region [oM 33 9,
 oU 34 (.bin .add (.u 33) (xI 1)),
 oV 9 34]))))))
 (sR [oK 56 3 8,
 oS 3 4 56,
 oI 5 0]
 .ret)))))
def r38 : List LRes := [.cell true 3 4, .slot 5]
theorem t38 : trOk Tryz.prog Tryz.f38 (vL [0, 1, 2, 4, 5, 7, 8, 9, 10, 18, 21, 32, 44, 49]) c38 r38 := ⟨by kernel_rfl, by kernel_rfl⟩
def c39 : LCode :=
 sR [oB 3 0,
 oT 6 (.zero [zI, zI, .fsl 1 0 []]),
 oI 7 0]
 (sR [oK 12 3 3,
 oM 13 1,
 oC 14 11 [.u 12, .u 13],
 oW 11 14,
 oX 15 11 0,
 oX 16 11 1,
 oT 8 (.zero [zI, zI, zI, zI, zI, zI, zI, zI, zI, zI, .str [], .str [], .fsl 1 0 [], .bool false]),
 oS 14 8 15,
 oV 9 16]
 (.seq (sR [oM 17 9,
 oT 18 (.un .not (.u 17))]
 (cT 18
 (sR [oU 19 (.build [zI, zI, .fsl 1 0 []] []),
 oS 3 6 19,
 oI 7 3]
 .ret)
 .skip))
 (.seq (sR [oM 20 2,
 oC 21 76 [.u 20],
 oT 22 (.un .not (.u 21))]
 (cT 22
 (sR [oU 23 (.build [zI, zI, .fsl 1 0 []] []),
 oS 3 6 23,
 oI 7 22]
 .ret)
 .skip))
 (sR [oI 10 0]
 (sR [oG 25 3 8,
 oL 26 1 25,
 oU 27 (.bin .eql (.u 26) (xI 0)),
 oG 28 2 8,
 oL 29 1 28,
 oG 30 3 8,
 oL 31 1 30,
 oM 32 2,
 oC 33 77 [.u 27, .u 29, .u 31, .u 32],
 oW 24 33,
 oX 34 24 0,
 oX 35 24 1,
 oX 36 24 2,
 oG 37 2 8,
 oR 1 37 34,
 oG 38 3 8,
 oR 1 38 35,
 oV 10 36]
 (.seq (sR [oM 39 10,
 oT 40 (.bin .neq (.u 39) (xI 0))]
 (cT 40
 (sR [oU 41 (.build [zI, zI, .fsl 1 0 []] []),
 oM 42 10,
 oS 3 6 41,
 oV 7 42]
 .ret)
 .skip))
 (sR [oK 43 3 3,
 oK 44 14 8,
 oC 45 78 [.u 43, .u 44],
 oS 3 6 45,
 oI 7 0]
 .ret)))))))
def r39 : List LRes := [.cell true 3 6, .slot 7]
theorem t39 : trOk Tryz.prog Tryz.f39 (vL [0, 1, 2, 3, 6, 7, 8, 9, 10, 18, 22, 40]) c39 r39 := ⟨by kernel_rfl, by kernel_rfl⟩
def c40 : LCode :=
 sR [oB 3 0,
 oB 5 2,
 oT 6 (.zero [zI, zI, .fsl 1 0 []]),
 oI 7 0]
 (sR [oK 8 3 3,
 oM 9 1,
 oU 10 (.mkf 79 [.t 5]),
 oC 11 23 [.u 8, .u 9, .u 10],
 oX 12 11 0,
 oX 13 11 1,
 oS 3 6 12,
 oV 7 13]
 .ret)
def r40 : List LRes := [.cell true 3 6, .slot 7]
theorem t40 : trOk Tryz.prog Tryz.f40 (vL [0, 1, 2, 3, 5, 6, 7]) c40 r40 := ⟨by kernel_rfl, by kernel_rfl⟩
def c41 : LCode :=
 sR [oB 3 0,
 oT 6 (.zero [zI, zI, .fsl 1 0 []]),
 oI 7 0]
 (sR [oK 12 3 3,
 oM 13 1,
 oC 14 11 [.u 12, .u 13],
 oW 11 14,
 oX 15 11 0,
 oX 16 11 1,
 oT 8 (.zero [zI, zI, zI, zI, zI, zI, zI, zI, zI, zI, .str [], .str [], .fsl 1 0 [], .bool false]),
 oS 14 8 15,
 oV 9 16]
 (.seq (sR [oM 17 9,
 oT 18 (.un .not (.u 17))]
 (cT 18
 (sR [oU 19 (.build [zI, zI, .fsl 1 0 []] []),
 oS 3 6 19,
 oI 7 3]
 .ret)
 .skip))
 (.seq (sR [oM 20 2,
 oC 21 76 [.u 20],
 oT 22 (.un .not (.u 21))]
 (cT 22
 (sR [oU 23 (.build [zI, zI, .fsl 1 0 []] []),
 oS 3 6 23,
 oI 7 22]
 .ret)
 .skip))
 (sR [oI 10 0]
 (sR [oG 25 3 8,
 oL 26 1 25,
 oU 27 (.bin .eql (.u 26) (xI 0)),
 oG 28 4 8,
 oL 29 1 28,
 oG 30 5 8,
 oL 31 1 30,
 oM 32 2,
 oC 33 77 [.u 27, .u 29, .u 31, .u 32],
 oW 24 33,
 oX 34 24 0,
 oX 35 24 1,
 oX 36 24 2,
 oG 37 4 8,
 oR 1 37 34,
 oG 38 5 8,
 oR 1 38 35,
 oV 10 36]
 (.seq (sR [oM 39 10,
 oT 40 (.bin .neq (.u 39) (xI 0))]
 (cT 40
 (sR [oU 41 (.build [zI, zI, .fsl 1 0 []] []),
 oM 42 10,
 oS 3 6 41,
 oV 7 42]
 .ret)
 .skip))
 (sR [oK 43 3 3,
 oK 44 14 8,
 oC 45 78 [.u 43, .u 44],
 oS 3 6 45,
 oI 7 0]
 .ret)))))))
def r41 : List LRes := [.cell true 3 6, .slot 7]
theorem t41 : trOk Tryz.prog Tryz.f41 (vL [0, 1, 2, 3, 6, 7, 8, 9, 10, 18, 22, 40]) c41 r41 := ⟨by kernel_rfl, by kernel_rfl⟩
def c42 : LCode :=
 sR [oB 3 0,
 oB 5 2,
 oT 6 (.zero [zI, zI, .fsl 1 0 []]),
 oI 7 0]
 (sR [oK 8 3 3,
 oM 9 1,
 oU 10 (.mkf 80 [.t 5]),
 oC 11 23 [.u 8, .u 9, .u 10],
 oX 12 11 0,
 oX 13 11 1,
 oS 3 6 12,
 oV 7 13]
 .ret)
def r42 : List LRes := [.cell true 3 6, .slot 7]
theorem t42 : trOk Tryz.prog Tryz.f42 (vL [0, 1, 2, 3, 5, 6, 7]) c42 r42 := ⟨by kernel_rfl, by kernel_rfl⟩
def c43 : LCode :=
 sR [oB 3 0,
 oT 6 (.zero [zI, zI, .fsl 1 0 []]),
 oI 7 0]
 (sR [oK 12 3 3,
 oM 13 1,
 oC 14 11 [.u 12, .u 13],
 oW 11 14,
 oX 15 11 0,
 oX 16 11 1,
 oT 8 (.zero [zI, zI, zI, zI, zI, zI, zI, zI, zI, zI, .str [], .str [], .fsl 1 0 [], .bool false]),
 oS 14 8 15,
 oV 9 16]
 (.seq (sR [oM 17 9,
 oT 18 (.un .not (.u 17))]
 (cT 18
 (sR [oU 19 (.build [zI, zI, .fsl 1 0 []] []),
 oS 3 6 19,
 oI 7 3]
 .ret)
 .skip))
 (.seq (sR [oM 20 2,
 oC 21 76 [.u 20],
 oT 22 (.un .not (.u 21))]
 (cT 22
 (sR [oU 23 (.build [zI, zI, .fsl 1 0 []] []),
 oS 3 6 23,
 oI 7 22]
 .ret)
 .skip))
 (.seq (sR [oG 24 6 8,
 oL 25 1 24,
 oU 26 (.bin .neq (.u 25) (xI 4294967295)),
 oW 27 26,
 oY 28 27 (.faddr 3 (.t 8)),
 oY 29 27 (.load false 1 (.u 28)),
 oY 30 27 (.bin .neq (.u 29) (xI 0)),
 oT 31 (.pick (.u 27) (.u 30) (.c (.bool false)))]
 (cT 31
 (sR [oU 32 (.build [zI, zI, .fsl 1 0 []] []),
 oS 3 6 32,
 oI 7 1]
 .ret)
 .skip))
 (.seq (sR [oG 33 1 3,
 oL 34 1 33,
 oT 35 (.bin .eql (.u 34) (xI 1073741824))]
 (cT 35
 (sR [oU 36 (.build [zI, zI, .fsl 1 0 []] []),
 oS 3 6 36,
 oI 7 11]
 .ret)
 .skip))
 (sD [dF 0 [2] (oM 37 2),
 dF 1 [3] (oG 38 1 3),
 dT 2 [38] (oL 39 1 38),
 dF 3 [8] (oG 40 6 8),
 ⟨4, [40, 37], false, [2], oR 1 40 37⟩,
 dF 5 [8] (oG 41 7 8),
 dF 6 [41, 39] (oR 1 41 39)]
 (sR [oK 42 3 3,
 oK 43 14 8,
 oC 44 78 [.u 42, .u 43],
 oT 10 (.zero [zI, zI, .fsl 1 0 []]),
 oS 3 10 44]
 (sR [oG 45 1 10,
 oL 46 1 45,
 oU 47 (.bin .add (.u 46) (xI 1)),
 oG 48 1 10,
 oR 1 48 47]
 (sR [oK 49 3 10,
 oS 3 6 49,
 oI 7 0]
 .ret)))))))))
def r43 : List LRes := [.cell true 3 6, .slot 7]
theorem t43 : trOk Tryz.prog Tryz.f43 (vL [0, 1, 2, 3, 6, 7, 8, 9, 10, 18, 22, 31, 35]) c43 r43 := ⟨by kernel_rfl, by kernel_rfl⟩
def c45 : LCode :=
 sR [oB 4 0,
 oB 6 2,
 oT 8 (.zero [zI, zI, .fsl 1 0 []]),
 oI 9 0,
 oI 10 0]
 (sR [oK 16 3 4,
 oM 17 1,
 oC 18 11 [.u 16, .u 17],
 oW 15 18,
 oX 19 15 0,
 oX 20 15 1,
 oT 11 (.zero [zI, zI, zI, zI, zI, zI, zI, zI, zI, zI, .str [], .str [], .fsl 1 0 [], .bool false]),
 oS 14 11 19,
 oV 12 20]
 (.seq (sR [oM 21 12,
 oT 22 (.un .not (.u 21))]
 (cT 22
 (sR [oU 23 (.build [zI, zI, .fsl 1 0 []] []),
 oS 3 8 23,
 oI 9 0,
 oI 10 3]
 .ret)
 .skip))
 (.seq (sR [oG 24 12 11,
 oL 25 1 24,
 oU 26 (.lenL (.u 25)),
 oT 27 (.bin .geq (.u 26) (xI 8))]
 (cT 27
 (sR [oU 28 (.build [zI, zI, .fsl 1 0 []] []),
 oS 3 8 28,
 oI 9 0,
 oI 10 24]
 .ret)
 .skip))
 (sR [oI 13 0]
 (.seq (.block 0 (.loop (.seq (sR [oM 29 13,
 oG 30 12 11,
 oL 31 1 30,
 oU 32 (.lenL (.u 31)),
 oU 33 (.bin .lss (.u 29) (.u 32)),
 oW 34 33,
 oY 35 34 (.faddr 12 (.t 11)),
 oY 36 34 (.load false 1 (.u 35)),
 oY 37 34 (.mov (.t 13)),
 oY 38 34 (.iaS 4 (.u 36) (.u 37)),
 oY 39 34 (.faddr 0 (.u 38)),
 oY 40 34 (.load false 1 (.u 39)),
 oY 41 34 (.mov (.t 13)),
 oY 42 34 (.bin .eql (.u 40) (.u 41)),
 oT 43 (.pick (.u 34) (.u 42) (.c (.bool false)))]
 (cT 43
 .skip
 (.exit 0)))
 (.block 1 (.region [oM 44 13,
 oU 45 (.bin .add (.u 44) (xI 1)),
 oV 13 45])))))
 (sR [oG 46 12 11,
 oL 47 1 46,
 oM 48 13,
 oU 49 (.slL 4 (.u 47) none (some (.u 48)) none),
 oU 50 (.app 4 32 (.c (.fsl 1 0 [])) (.u 49)),
 oV 14 50]
 (sR [oM 51 14,
 oM 52 13,
 oK 53 2 6,
 oM 54 3,
 oU 55 (.build [zI, zI, zI, zI] [(0, 1, .u 52), (1, 2, .u 53), (3, 1, .u 54)]),
 oU 56 (.mkS 4 1 [zI, zI, zI, zI] [(0, 4, .u 55)]),
 oU 57 (.app 4 32 (.u 51) (.u 56)),
 oV 14 57]
 (sR [oM 58 14,
 oG 59 12 11,
 oL 60 1 59,
 oM 61 13,
 oU 62 (.slL 4 (.u 60) (some (.u 61)) none none),
 oU 63 (.app 4 32 (.u 58) (.u 62)),
 oG 64 12 11,
 oR 1 64 63]
 (sR [oK 65 3 4,
 oK 66 14 11,
 oC 67 78 [.u 65, .u 66],
 oM 68 13,
 oS 3 8 67,
 oV 9 68,
 oI 10 0]
 .ret)))))))))
def r45 : List LRes := [.cell true 3 8, .slot 9, .slot 10]
theorem t45 : trOk Tryz.prog Tryz.f45 (vL [0, 1, 2, 3, 4, 6, 8, 9, 10, 11, 12, 13, 14, 22, 27, 43]) c45 r45 := ⟨by kernel_rfl, by kernel_rfl⟩
def c47 : LCode :=
 sR [oB 3 0,
 oT 6 (.zero [zI, zI, .fsl 1 0 []]),
 oI 7 0]
 (sR [oK 13 3 3,
 oM 14 1,
 oC 15 11 [.u 13, .u 14],
 oW 12 15,
 oX 16 12 0,
 oX 17 12 1,
 oT 8 (.zero [zI, zI, zI, zI, zI, zI, zI, zI, zI, zI, .str [], .str [], .fsl 1 0 [], .bool false]),
 oS 14 8 16,
 oV 9 17]
 (.seq (sR [oM 18 9,
 oT 19 (.un .not (.u 18))]
 (cT 19
 (sR [oU 20 (.build [zI, zI, .fsl 1 0 []] []),
 oS 3 6 20,
 oI 7 3]
 .ret)
 .skip))
 (sR [oT 10 (.mov (.c (.fsl 1 0 [])))]
 (.seq (sR [oI 11 0]
 (.block 0 (.loop (.seq (sR [oM 21 11,
 oG 22 12 8,
 oL 23 1 22,
 oU 24 (.lenL (.u 23)),
 oT 25 (.bin .lss (.u 21) (.u 24))]
 (cT 25
 .skip
 (.exit 0)))
 (.seq (.block 1 (sR [oG 28 12 8,
 oL 29 1 28,
 oM 30 11,
 oA 31 4 29 30,
 oF 32 0 31,
 oL 33 1 32,
 oM 34 2,
 oT 35 (.bin .neq (.u 33) (.u 34))]
 (cT 35
 (.region [oM 36 10,
 oG 37 12 8,
 oL 38 1 37,
 oM 39 11,
 oA 40 4 38 39,
 oJ 41 4 40,
 oU 42 (.mkS 4 1 [zI, zI, zI, zI] [(0, 4, .u 41)]),
 oU 43 (.app 4 32 (.u 36) (.u 42)),
 oV 10 43])
 .skip)))
 (.region [oM 26 11,
 oU 27 (.bin .add (.u 26) (xI 1)),
 oV 11 27]))))))
 (.seq (sR [oM 44 10,
 oU 45 (.lenL (.u 44)),
 oG 46 12 8,
 oL 47 1 46,
 oU 48 (.lenL (.u 47)),
 oT 49 (.bin .eql (.u 45) (.u 48))]
 (cT 49
 (sR [oU 50 (.build [zI, zI, .fsl 1 0 []] []),
 oS 3 6 50,
 oI 7 9]
 .ret)
 .skip))
 (sR [oM 51 10,
 oG 52 12 8,
 oR 1 52 51]
 (sR [oK 53 3 3,
 oK 54 14 8,
 oC 55 78 [.u 53, .u 54],
 oS 3 6 55,
 oI 7 0]
 .ret)))))))
def r47 : List LRes := [.cell true 3 6, .slot 7]
theorem t47 : trOk Tryz.prog Tryz.f47 (vL [0, 1, 2, 3, 6, 7, 8, 9, 10, 11, 19, 25, 35, 49]) c47 r47 := ⟨by kernel_rfl, by kernel_rfl⟩
def c50 : LCode :=
 sR [oB 3 0,
 oB 5 2,
 oT 6 (.zero [zI, zI, .fsl 1 0 []]),
 oI 7 0]
 (sR [oK 11 3 3,
 oM 12 1,
 oC 13 11 [.u 11, .u 12],
 oW 10 13,
 oX 14 10 0,
 oX 15 10 1,
 oT 8 (.zero [zI, zI, zI, zI, zI, zI, zI, zI, zI, zI, .str [], .str [], .fsl 1 0 [], .bool false]),
 oS 14 8 14,
 oV 9 15]
 (.seq (sR [oM 16 9,
 oT 17 (.un .not (.u 16))]
 (cT 17
 (sR [oU 18 (.build [zI, zI, .fsl 1 0 []] []),
 oS 3 6 18,
 oI 7 3]
 .ret)
 .skip))
 (sR [oK 19 2 5,
 oG 20 8 8,
 oR 2 20 19]
 (sR [oK 21 3 3,
 oK 22 14 8,
 oC 23 78 [.u 21, .u 22],
 oS 3 6 23,
 oI 7 0]
 .ret))))
def r50 : List LRes := [.cell true 3 6, .slot 7]
theorem t50 : trOk Tryz.prog Tryz.f50 (vL [0, 1, 2, 3, 5, 6, 7, 8, 9, 17]) c50 r50 := ⟨by kernel_rfl, by kernel_rfl⟩
def c51 : LCode :=
 sR [oB 4 0,
 oB 6 2,
 oB 7 3,
 oT 8 (.zero [zI, zI, .fsl 1 0 []]),
 oI 9 0]
 (sR [oK 10 3 4,
 oM 11 1,
 oU 12 (.mkf 88 [.t 6, .t 7]),
 oC 13 23 [.u 10, .u 11, .u 12],
 oX 14 13 0,
 oX 15 13 1,
 oS 3 8 14,
 oV 9 15]
 .ret)
def r51 : List LRes := [.cell true 3 8, .slot 9]
theorem t51 : trOk Tryz.prog Tryz.f51 (vL [0, 1, 2, 3, 4, 6, 7, 8, 9]) c51 r51 := ⟨by kernel_rfl, by kernel_rfl⟩
def c52 : LCode :=
 sR [oB 4 0,
 oT 8 (.zero [zI, zI, .fsl 1 0 []]),
 oI 9 0]
 (sR [oK 13 3 4,
 oM 14 1,
 oC 15 11 [.u 13, .u 14],
 oW 12 15,
 oX 16 12 0,
 oX 17 12 1,
 oT 10 (.zero [zI, zI, zI, zI, zI, zI, zI, zI, zI, zI, .str [], .str [], .fsl 1 0 [], .bool false]),
 oS 14 10 16,
 oV 11 17]
 (.seq (sR [oM 18 11,
 oT 19 (.un .not (.u 18))]
 (cT 19
 (sR [oU 20 (.build [zI, zI, .fsl 1 0 []] []),
 oS 3 8 20,
 oI 9 3]
 .ret)
 .skip))
 (sR [oM 21 2,
 oM 22 3,
 oG 23 11 10,
 oR 1 23 21,
 oG 24 10 10,
 oR 1 24 22]
 (sR [oK 25 3 4,
 oK 26 14 10,
 oC 27 78 [.u 25, .u 26],
 oS 3 8 27,
 oI 9 0]
 .ret))))
def r52 : List LRes := [.cell true 3 8, .slot 9]
theorem t52 : trOk Tryz.prog Tryz.f52 (vL [0, 1, 2, 3, 4, 8, 9, 10, 11, 19]) c52 r52 := ⟨by kernel_rfl, by kernel_rfl⟩
def c55 : LCode :=
 sR [oB 3 0,
 oT 6 (.zero [zI, zI, .fsl 1 0 []]),
 oI 7 0]
 (sR [oK 11 3 3,
 oM 12 1,
 oC 13 11 [.u 11, .u 12],
 oW 10 13,
 oX 14 10 0,
 oX 15 10 1,
 oT 8 (.zero [zI, zI, zI, zI, zI, zI, zI, zI, zI, zI, .str [], .str [], .fsl 1 0 [], .bool false]),
 oS 14 8 14,
 oV 9 15]
 (.seq (sR [oM 16 9,
 oT 17 (.un .not (.u 16))]
 (cT 17
 (sR [oU 18 (.build [zI, zI, .fsl 1 0 []] []),
 oS 3 6 18,
 oI 7 3]
 .ret)
 .skip))
 (sR [oM 19 2,
 oG 20 13 8,
 oR 1 20 19]
 (sR [oK 21 3 3,
 oK 22 14 8,
 oC 23 78 [.u 21, .u 22],
 oS 3 6 23,
 oI 7 0]
 .ret))))
def r55 : List LRes := [.cell true 3 6, .slot 7]
theorem t55 : trOk Tryz.prog Tryz.f55 (vL [0, 1, 2, 3, 6, 7, 8, 9, 17]) c55 r55 := ⟨by kernel_rfl, by kernel_rfl⟩
def c57 : LCode :=
 sR [oB 4 0,
 oT 8 (.zero [zI, zI, .fsl 1 0 []]),
 oI 9 0]
 (sR [oK 14 3 4,
 oM 15 1,
 oC 16 11 [.u 14, .u 15],
 oW 13 16,
 oX 17 13 0,
 oX 18 13 1,
 oT 10 (.zero [zI, zI, zI, zI, zI, zI, zI, zI, zI, zI, .str [], .str [], .fsl 1 0 [], .bool false]),
 oS 14 10 17,
 oV 11 18]
 (.seq (sR [oM 19 11,
 oT 20 (.un .not (.u 19))]
 (cT 20
 (sR [oU 21 (.build [zI, zI, .fsl 1 0 []] []),
 oS 3 8 21,
 oI 9 3]
 .ret)
 .skip))
 (sR [oK 23 3 4,
 oM 24 2,
 oC 25 11 [.u 23, .u 24],
 oW 22 25,
 oX 26 22 0,
 oX 27 22 1,
 oT 12 (.zero [zI, zI, zI, zI, zI, zI, zI, zI, zI, zI, .str [], .str [], .fsl 1 0 [], .bool false]),
 oS 14 12 26,
 oV 11 27]
 (.seq (sR [oM 28 11,
 oT 29 (.un .not (.u 28))]
 (cT 29
 (sR [oU 30 (.build [zI, zI, .fsl 1 0 []] []),
 oS 3 8 30,
 oI 9 3]
 .ret)
 .skip))
 (.seq (sR [oM 31 2,
 oU 32 (.bin .eql (.u 31) (xI 1)),
 oW 33 32,
 oO 34 33 (.faddr 3 (.t 10)),
 oO 35 33 (.load false 1 (.u 34)),
 oO 36 33 (.bin .neq (.u 35) (xI 0)),
 oO 37 33 (.mov (.u 36)),
 oY 38 37 (.faddr 3 (.t 10)),
 oY 39 37 (.load false 1 (.u 38)),
 oY 40 37 (.faddr 2 (.t 12)),
 oY 41 37 (.load false 1 (.u 40)),
 oY 42 37 (.bin .neq (.u 39) (.u 41)),
 oO 43 33 (.pick (.u 37) (.u 42) (.c (.bool false))),
 oQ 44 33 43]
 (cT 44
 (sR [oU 45 (.build [zI, zI, .fsl 1 0 []] []),
 oS 3 8 45,
 oI 9 1]
 .ret)
 .skip))
 (.seq (sR [oT 46 (.mov (.t 3))]
 (cT 46
 (sR [oK 47 3 4,
 oM 48 2,
 oC 49 38 [.u 47, .u 48],
 oX 50 49 0,
 oX 51 49 1,
 oS 3 8 50,
 oV 9 51]
 .ret)
 .skip))
 (sR [oK 52 3 4,
 oC 53 30 [.u 52],
 oS 3 8 53,
 oI 9 0]
 .ret)))))))
def r57 : List LRes := [.cell true 3 8, .slot 9]
theorem t57 : trOk Tryz.prog Tryz.f57 (vL [0, 1, 2, 3, 4, 8, 9, 10, 11, 12, 20, 29, 44, 46]) c57 r57 := ⟨by kernel_rfl, by kernel_rfl⟩
def c58 : LCode :=
 sR [oB 2 0,
 oB 3 1,
 oI 4 0]
 (sR [oG 5 2 2,
 oL 6 1 5,
 oU 7 (.mkf 92 [.t 3]),
 oC 8 91 [.u 6, .u 7],
 oV 4 8]
 .ret)
def r58 : List LRes := [.slot 4]
theorem t58 : trOk Tryz.prog Tryz.f58 (vL [0, 1, 2, 3, 4]) c58 r58 := ⟨by kernel_rfl, by kernel_rfl⟩
def c59 : LCode :=
 sR [oB 1 0,
 oT 2 (.zero [zI, zI, zI, zI, zI, zI, zI, zI, zI, zI, .str [], .str [], .fsl 1 0 [], .bool false])]
 (sR [oG 3 12 1,
 oL 4 1 3,
 oC 5 93 [.u 4, (.c (.fn 94))],
 oG 6 12 1,
 oR 1 6 5]
 (sR [oK 7 14 1,
 oS 14 2 7]
 .ret))
def r59 : List LRes := [.cell true 14 2]
theorem t59 : trOk Tryz.prog Tryz.f59 (vL [0, 1, 2]) c59 r59 := ⟨by kernel_rfl, by kernel_rfl⟩
def c61 : LCode :=
 sR [oB 1 0,
 oT 2 (.zero [zI, zI, .fsl 1 0 []])]
 (sR [oK 3 2 1,
 oU 4 (.build [zI, zI, zI, zI, zI, zI, zI, zI, zI, zI, .str [], .str [], .fsl 1 0 [], .bool false] [(0, 1, xI 1), (6, 1, xI 4294967295), (7, 1, xI 4294967295), (8, 2, .u 3), (10, 1, (.c (.str [105, 110, 105, 116]))), (11, 1, (.c (.str [47, 105, 110, 105, 116]))), (13, 1, (.c (.bool true)))]),
 oU 5 (.mkS 14 1 [zI, zI, zI, zI, zI, zI, zI, zI, zI, zI, .str [], .str [], .fsl 1 0 [], .bool false] [(0, 14, .u 4)]),
 oU 6 (.build [zI, zI, .fsl 1 0 []] [(0, 1, xI 2), (1, 1, xI 1), (2, 1, .u 5)]),
 oS 3 2 6]
 .ret)
def r61 : List LRes := [.cell true 3 2]
theorem t61 : trOk Tryz.prog Tryz.f61 (vL [0, 1, 2]) c61 r61 := ⟨by kernel_rfl, by kernel_rfl⟩
def c67 : LCode :=
 sR [oI 2 0,
 oI 3 0,
 oI 4 0,
 oI 5 0]
 (sR [oM 7 0,
 oC 8 96 [.u 7],
 oT 6 (.zero [.str [], zI, zI, zI, zI]),
 oS 5 6 8]
 (sD [dF 0 [6] (oG 9 1 6),
 dT 1 [9] (oL 10 1 9),
 dF 2 [6] (oG 11 2 6),
 dT 3 [11] (oL 12 1 11),
 dF 4 [6] (oG 13 3 6),
 dT 5 [13] (oL 14 1 13),
 dF 6 [6] (oG 15 4 6),
 dT 7 [15] (oL 16 1 15),
 dF 8 [10] (oV 2 10),
 dF 9 [12] (oV 3 12),
 dF 10 [14] (oV 4 14),
 dF 11 [16] (oV 5 16)]
 .ret))
def r67 : List LRes := [.slot 2, .slot 3, .slot 4, .slot 5]
theorem t67 : trOk Tryz.prog Tryz.f67 (vL [0, 2, 3, 4, 5, 6]) c67 r67 := ⟨by kernel_rfl, by kernel_rfl⟩
def c68 : LCode :=
 sR [oT 2 (.mov (.c (.str [])))]
 (sR [oT 3 (.mov (.c (.str [])))]
 (.seq (sR [oM 6 0,
 oC 7 22 [.u 6, xI 6],
 oT 8 (.bin .gtr (.u 7) (xI 0))]
 (cT 8
 (.region [oT 3 (.mov (.c (.str [47])))])
 .skip))
 (sR [oM 9 0,
 oU 10 (.mkS 1 7 [zI] [(0, 1, xI 1), (1, 1, xI 1), (2, 1, xI 2), (3, 1, xI 2), (4, 1, xI 3), (5, 1, xI 0), (6, 1, xI 4)]),
 oC 11 31 [.u 9, .u 10],
 oV 4 11]
 (.seq (sR [oI 5 0]
 (.block 0 (.loop (.seq (sR [oM 12 5,
 oM 13 4,
 oT 14 (.bin .lss (.u 12) (.u 13))]
 (cT 14
 .skip
 (.exit 0)))
 (.seq (.block 1 (.seq (sR [oM 17 5,
 oT 18 (.bin .gtr (.u 17) (xI 0))]
 (cT 18
 (.region [oM 19 3,
 oU 20 (.bin .add (.u 19) (.c (.str [47]))),
 oV 3 20])
 .skip))
 (sR [oM 21 0,
 oC 22 22 [.u 21, xI 8],
 oT 23 (.bin .eql (.u 22) (xI 7))]
 (cT 23
 (.region [oM 24 3,
 oM 25 0,
 oU 26 (.mkS 1 4 [.str []] [(0, 1, (.c (.str [46]))), (1, 1, (.c (.str [46, 46]))), (2, 1, (.c (.str []))), (3, 1, (.c (.str [97, 47, 47, 98])))]),
 oC 27 69 [.u 25, .u 26],
 oU 28 (.bin .add (.u 24) (.u 27)),
 oV 3 28])
 (.region [oM 29 3,
 oM 30 0,
 oC 31 110 [.u 30],
 oU 32 (.bin .add (.u 29) (.u 31)),
 oV 3 32])))))
 (.region [oM 15 5,
 oU 16 (.bin .add (.u 15) (xI 1)),
 oV 5 16]))))))
 (.seq (sR [oM 33 0,
 oC 34 22 [.u 33, xI 8],
 oT 35 (.bin .eql (.u 34) (xI 7))]
 (cT 35
 (.region [oM 36 3,
 oU 37 (.bin .add (.u 36) (.c (.str [47]))),
 oV 3 37])
 .skip))
 (sR [oM 38 3,
 oV 2 38]
 .ret))))))
def r68 : List LRes := [.slot 2]
theorem t68 : trOk Tryz.prog Tryz.f68 (vL [0, 2, 3, 4, 5, 8, 14, 18, 23, 35]) c68 r68 := ⟨by kernel_rfl, by kernel_rfl⟩
def c69 : LCode :=
 sR [oT 4 (.mov (.c (.str [])))]
 (sR [oM 5 1,
 oM 6 0,
 oM 7 1,
 oU 8 (.lenL (.u 7)),
 oC 9 22 [.u 6, .u 8],
 oA 10 1 5 9,
 oL 11 1 10,
 oV 4 11]
 .ret)
def r69 : List LRes := [.slot 4]
theorem t69 : trOk Tryz.prog Tryz.f69 (vL [0, 1, 4]) c69 r69 := ⟨by kernel_rfl, by kernel_rfl⟩
def c70 : LCode :=
 sR [oB 1 0,
 oT 2 (.zero [zI, zI, .fsl 1 0 []])]
 (sR [oG 3 2 1,
 oL 4 1 3,
 oC 5 111 [.u 4, (.c (.fn 59))],
 oG 6 2 1,
 oR 1 6 5]
 (sR [oK 7 3 1,
 oS 3 2 7]
 .ret))
def r70 : List LRes := [.cell true 3 2]
theorem t70 : trOk Tryz.prog Tryz.f70 (vL [0, 1, 2]) c70 r70 := ⟨by kernel_rfl, by kernel_rfl⟩
def c71 : LCode :=
 sR [oT 6 (.mov (.c (.fsl 1 0 [])))]
 (sR [oM 8 0,
 oM 9 1,
 oM 10 2,
 oM 11 0,
 oU 12 (.lenL (.u 11)),
 oU 13 (.slL 14 (.u 8) (some (.u 9)) (some (.u 10)) (some (.u 12)))]
 (.seq (sR [oM 14 1,
 oM 15 2,
 oT 16 (.bin .eql (.u 14) (.u 15))]
 (cT 16
 (sR [oM 17 0,
 oV 6 17]
 .ret)
 .skip))
 (sR [oM 18 0,
 oU 19 (.lenL (.u 18)),
 oV 7 19]
 (sD [dF 0 [0] (oM 20 0),
 dF 1 [1] (oM 21 1),
 dF 2 [20, 21] (oU 22 (.slL 14 (.u 20) none (some (.u 21)) none)),
 dF 3 [0] (oM 23 0),
 dF 4 [2] (oM 24 2),
 dF 5 [23, 24] (oU 25 (.slL 14 (.u 23) (some (.u 24)) none none)),
 dF 6 [22, 25] (oU 26 (.app 14 144 (.u 22) (.u 25))),
 dF 7 [26] (oV 0 26)]
 (sR [oM 27 0,
 oM 28 0,
 oU 29 (.lenL (.u 28)),
 oM 30 7,
 oU 31 (.slL 14 (.u 27) (some (.u 29)) (some (.u 30)) none),
 oN (.clear 14 [zI, zI, zI, zI, zI, zI, zI, zI, zI, zI, .str [], .str [], .fsl 1 0 [], .bool false] (.u 31))]
 (sR [oM 32 0,
 oV 6 32]
 .ret))))))
def r71 : List LRes := [.slot 6]
theorem t71 : trOk Tryz.prog Tryz.f71 (vL [0, 1, 2, 6, 7, 16]) c71 r71 := ⟨by kernel_rfl, by kernel_rfl⟩
def c72 : LCode :=
 sR [oI 6 0]
 (.seq (sR [oM 8 0,
 oZ 9 8,
 oF 10 2 9,
 oL 11 1 10,
 oU 12 (.lenL (.u 11)),
 oU 13 (.bin .geq (.u 12) (xI 16)),
 oW 14 13,
 oO 15 14 (.mov (.t 0)),
 oO 16 14 (.nilc (.u 15)),
 oO 17 14 (.faddr 0 (.u 16)),
 oO 18 14 (.load false 1 (.u 17)),
 oO 19 14 (.bin .geq (.u 18) (xI 1073741824)),
 oQ 20 14 19]
 (cT 20
 (sR [oI 6 11]
 .ret)
 .skip))
 (sR [oM 21 1,
 oZ 22 21,
 oJ 23 14 22,
 oC 24 59 [.u 23],
 oT 7 (.zero [zI, zI, zI, zI, zI, zI, zI, zI, zI, zI, .str [], .str [], .fsl 1 0 [], .bool false]),
 oS 14 7 24]
 (sD [dT 0 [2] (oU 25 (.load false 1 (.t 2))),
 dT 1 [3] (oU 26 (.load false 1 (.t 3))),
 dF 2 [7] (oG 27 0 7),
 ⟨3, [27, 25], false, [1], oR 1 27 25⟩,
 dF 4 [7] (oG 28 1 7),
 dF 5 [28, 26] (oR 1 28 26)]
 (sD [dF 0 [0] (oM 29 0),
 dF 1 [0] (oM 30 0),
 dF 2 [30] (oZ 31 30),
 dF 3 [31] (oF 32 2 31),
 dT 4 [32] (oL 33 1 32),
 dT 5 [7] (oK 34 14 7),
 dF 6 [34] (oU 35 (.mkS 14 1 [zI, zI, zI, zI, zI, zI, zI, zI, zI, zI, .str [], .str [], .fsl 1 0 [], .bool false] [(0, 14, .u 34)])),
 dF 7 [33, 35] (oU 36 (.app 14 144 (.u 33) (.u 35))),
 dF 8 [29] (oZ 37 29),
 dF 9 [37] (oF 38 2 37),
 dF 10 [38, 36] (oR 1 38 36)]
 (sR [oM 39 0,
 oZ 40 39,
 oF 41 0 40,
 oL 42 1 41,
 oU 43 (.bin .add (.u 42) (xI 1)),
 oZ 44 39,
 oF 45 0 44,
 oR 1 45 43]
 (sR [oI 6 0]
 .ret))))))
def r72 : List LRes := [.slot 6]
theorem t72 : trOk Tryz.prog Tryz.f72 (vL [0, 1, 2, 3, 6, 7, 20]) c72 r72 := ⟨by kernel_rfl, by kernel_rfl⟩
def c73 : LCode :=
 sR [oI 5 0]
 (sD [dT 0 [2] (oU 6 (.load false 1 (.t 2))),
 dF 1 [1] (oM 7 1),
 dF 2 [7] (oZ 8 7),
 dF 3 [8] (oF 9 3 8),
 dT 4 [9] (oL 10 1 9),
 dF 5 [10] (oU 11 (.bin .eql (.u 10) (xI 0))),
 dF 6 [1] (oM 12 1),
 dF 7 [12] (oZ 13 12),
 dF 8 [13] (oF 14 2 13),
 dF 9 [1] (oM 15 1),
 dF 10 [15] (oZ 16 15),
 dF 11 [16] (oF 17 3 16),
 dF 12 [6, 11, 14, 17] (oC 18 74 [.u 6, .u 11, .u 14, .u 17]),
 dF 13 [18] (oV 5 18)]
 .ret)
def r73 : List LRes := [.slot 5]
theorem t73 : trOk Tryz.prog Tryz.f73 (vL [0, 1, 2, 5]) c73 r73 := ⟨by kernel_rfl, by kernel_rfl⟩
def c74 : LCode :=
 sR [oI 8 0]
 (.seq (.block 0 (sR [oM 10 0,
 oC 11 75 [.u 10],
 oU 12 (.un .not (.u 11)),
 oV 9 12]
 (cT 9
 (sR [oI 8 22]
 .ret)
 (sR [oM 14 1,
 oV 13 14]
 (cT 13
 (.region [oM 15 2,
 oM 16 3,
 oM 17 0,
 oM 18 0,
 oZ 19 15,
 oR 1 19 17,
 oZ 20 16,
 oR 1 20 18])
 (.seq (sR [oM 22 0,
 oM 23 2,
 oZ 24 23,
 oL 25 1 24,
 oU 26 (.bin .eql (.u 22) (.u 25)),
 oV 21 26]
 (cT 21
 .skip
 (.region [oM 27 0,
 oM 28 3,
 oZ 29 28,
 oL 30 1 29,
 oU 31 (.bin .eql (.u 27) (.u 30)),
 oV 21 31])))
 (cT 21
 (.region [oM 32 3,
 oM 33 0,
 oZ 34 32,
 oR 1 34 33])
 (sR [oI 8 1]
 .ret))))))))
 (sR [oI 8 0]
 .ret))
def r74 : List LRes := [.slot 8]
theorem t74 : trOk Tryz.prog Tryz.f74 (vL [0, 1, 2, 3, 8, 9, 13, 21]) c74 r74 := ⟨by kernel_rfl, by kernel_rfl⟩
def c75 : LCode :=
 sR [oP 2 false]
 (sR [oM 3 0,
 oU 4 (.bin .geq (.u 3) (xI 0)),
 oW 5 4,
 oY 6 5 (.mov (.t 0)),
 oY 7 5 (.bin .lss (.u 6) (xI 4294967295)),
 oU 8 (.pick (.u 5) (.u 7) (.c (.bool false))),
 oV 2 8]
 .ret)
def r75 : List LRes := [.slot 2]
theorem t75 : trOk Tryz.prog Tryz.f75 (vL [0, 2]) c75 r75 := ⟨by kernel_rfl, by kernel_rfl⟩
def c76 : LCode :=
 sR [oP 2 false]
 (sR [oM 3 0,
 oU 4 (.bin .geq (.u 3) (xI 0)),
 oW 5 4,
 oY 6 5 (.mov (.t 0)),
 oY 7 5 (.bin .lss (.u 6) (xI 4294967295)),
 oU 8 (.pick (.u 5) (.u 7) (.c (.bool false))),
 oV 2 8]
 .ret)
def r76 : List LRes := [.slot 2]
theorem t76 : trOk Tryz.prog Tryz.f76 (vL [0, 2]) c76 r76 := ⟨by kernel_rfl, by kernel_rfl⟩
def c77 : LCode :=
 sR [oI 8 0,
 oI 9 0,
 oI 10 0]
 (.seq (sR [oT 11 (.mov (.t 0))]
 (cT 11
 (sR [oM 12 3,
 oM 13 3,
 oV 8 12,
 oV 9 13,
 oI 10 0]
 .ret)
 .skip))
 (.seq (sR [oM 14 3,
 oM 15 1,
 oU 16 (.bin .eql (.u 14) (.u 15)),
 oW 17 16,
 oO 18 17 (.mov (.t 3)),
 oO 19 17 (.mov (.t 2)),
 oO 20 17 (.bin .eql (.u 18) (.u 19)),
 oQ 21 17 20]
 (cT 21
 (sR [oM 22 1,
 oM 23 3,
 oV 8 22,
 oV 9 23,
 oI 10 0]
 .ret)
 .skip))
 (sR [oI 8 0,
 oI 9 0,
 oI 10 1]
 .ret)))
def r77 : List LRes := [.slot 8, .slot 9, .slot 10]
theorem t77 : trOk Tryz.prog Tryz.f77 (vL [0, 1, 2, 3, 8, 9, 10, 11, 21]) c77 r77 := ⟨by kernel_rfl, by kernel_rfl⟩
def c78 : LCode :=
 sR [oB 2 0,
 oB 3 1,
 oT 4 (.zero [zI, zI, .fsl 1 0 []])]
 (sR [oK 7 3 2,
 oC 8 30 [.u 7],
 oT 5 (.zero [zI, zI, .fsl 1 0 []]),
 oS 3 5 8]
 (.seq (sR [oI 6 0]
 (.block 0 (.loop (.seq (sR [oM 9 6,
 oG 10 2 5,
 oL 11 1 10,
 oU 12 (.lenL (.u 11)),
 oT 13 (.bin .lss (.u 9) (.u 12))]
 (cT 13
 .skip
 (.exit 0)))
 (.seq (.block 1 (sD [dF 0 [5] (oG 16 2 5),
 dT 1 [16] (oL 17 1 16),
 dF 2 [6] (oM 18 6),
 dF 3 [17, 18] (oA 19 14 17 18),
 dF 4 [19] (oF 20 0 19),
 dT 5 [20] (oL 21 1 20),
 dF 6 [3] (oG 22 0 3),
 dT 7 [22] (oL 23 1 22),
 dF 8 [21, 23] (oT 24 (.bin .eql (.u 21) (.u 23)))]
 (cT 24
 (.region [oG 25 2 5,
 oL 26 1 25,
 oM 27 6,
 oK 28 14 3,
 oA 29 14 26 27,
 oR 14 29 28])
 .skip)))
 (.region [oM 14 6,
 oU 15 (.bin .add (.u 14) (xI 1)),
 oV 6 15]))))))
 (sR [oK 30 3 5,
 oS 3 4 30]
 .ret)))
def r78 : List LRes := [.cell true 3 4]
theorem t78 : trOk Tryz.prog Tryz.f78 (vL [0, 1, 2, 3, 4, 5, 6, 13, 24]) c78 r78 := ⟨by kernel_rfl, by kernel_rfl⟩
def c79 : LCode :=
 sR [oI 5 0]
 (sD [dT 0 [2] (oU 6 (.load false 1 (.t 2))),
 dF 1 [1] (oM 7 1),
 dF 2 [7] (oZ 8 7),
 dF 3 [8] (oF 9 3 8),
 dT 4 [9] (oL 10 1 9),
 dF 5 [10] (oU 11 (.bin .eql (.u 10) (xI 0))),
 dF 6 [1] (oM 12 1),
 dF 7 [12] (oZ 13 12),
 dF 8 [13] (oF 14 4 13),
 dF 9 [1] (oM 15 1),
 dF 10 [15] (oZ 16 15),
 dF 11 [16] (oF 17 5 16),
 dF 12 [6, 11, 14, 17] (oC 18 74 [.u 6, .u 11, .u 14, .u 17]),
 dF 13 [18] (oV 5 18)]
 .ret)
def r79 : List LRes := [.slot 5]
theorem t79 : trOk Tryz.prog Tryz.f79 (vL [0, 1, 2, 5]) c79 r79 := ⟨by kernel_rfl, by kernel_rfl⟩
def c80 : LCode :=
 sR [oI 5 0]
 (.seq (.block 0 (sR [oU 7 (.load false 1 (.t 2)),
 oC 8 75 [.u 7],
 oU 9 (.un .not (.u 8)),
 oV 6 9]
 (cT 6
 (sR [oI 5 22]
 .ret)
 (sR [oM 11 1,
 oZ 12 11,
 oF 13 6 12,
 oL 14 1 13,
 oU 15 (.bin .neq (.u 14) (xI 4294967295)),
 oW 16 15,
 oY 17 16 (.mov (.t 1)),
 oY 18 16 (.nilc (.u 17)),
 oY 19 16 (.faddr 3 (.u 18)),
 oY 20 16 (.load false 1 (.u 19)),
 oY 21 16 (.bin .neq (.u 20) (xI 0)),
 oU 22 (.pick (.u 16) (.u 21) (.c (.bool false))),
 oV 10 22]
 (cT 10
 (sR [oI 5 1]
 .ret)
 (sR [oM 24 0,
 oZ 25 24,
 oF 26 1 25,
 oL 27 1 26,
 oU 28 (.bin .geq (.u 27) (xI 1073741824)),
 oV 23 28]
 (cT 23
 (sR [oI 5 11]
 .ret)
 .skip)))))))
 (sD [dF 0 [1] (oM 29 1),
 dF 1 [1] (oM 30 1),
 dT 2 [2] (oU 31 (.load false 1 (.t 2))),
 dF 3 [0] (oM 32 0),
 dF 4 [32] (oZ 33 32),
 dF 5 [33] (oF 34 1 33),
 dT 6 [34] (oL 35 1 34),
 dF 7 [29] (oZ 36 29),
 dF 8 [36] (oF 37 6 36),
 dF 9 [37, 31] (oR 1 37 31),
 dF 10 [30] (oZ 38 30),
 dF 11 [38] (oF 39 7 38),
 dF 12 [39, 35] (oR 1 39 35)]
 (sR [oM 40 0,
 oZ 41 40,
 oF 42 1 41,
 oL 43 1 42,
 oU 44 (.bin .add (.u 43) (xI 1)),
 oZ 45 40,
 oF 46 1 45,
 oR 1 46 44]
 (sR [oI 5 0]
 .ret))))
def r80 : List LRes := [.slot 5]
theorem t80 : trOk Tryz.prog Tryz.f80 (vL [0, 1, 2, 5, 6, 10, 23]) c80 r80 := ⟨by kernel_rfl, by kernel_rfl⟩
def c88 : LCode :=
 sR [oI 6 0]
 (sD [dF 0 [1] (oM 7 1),
 dF 1 [1] (oM 8 1),
 dT 2 [2] (oU 9 (.load false 1 (.t 2))),
 dT 3 [3] (oU 10 (.load false 1 (.t 3))),
 dF 4 [7] (oZ 11 7),
 dF 5 [11] (oF 12 11 11),
 ⟨6, [12, 9], false, [3], oR 1 12 9⟩,
 dF 7 [8] (oZ 13 8),
 dF 8 [13] (oF 14 10 13),
 dF 9 [14, 10] (oR 1 14 10)]
 (sR [oI 6 0]
 .ret))
def r88 : List LRes := [.slot 6]
theorem t88 : trOk Tryz.prog Tryz.f88 (vL [0, 1, 2, 3, 6]) c88 r88 := ⟨by kernel_rfl, by kernel_rfl⟩
def c91 : LCode :=
 sR [oI 4 0]
 (.seq (sR [oM 6 0,
 oT 7 (.lenL (.u 6)),
 oI 8 0]
 (.block 0 (.loop (sR [oT 9 (.bin .lss (.t 8) (.t 7))]
 (.seq (cT 9
 .skip
 (.exit 0))
 (.seq (.block 1 (sR [oM 10 8,
 oV 5 10]
 (sR [oM 11 1,
 oM 12 0,
 oM 13 5,
 oA 14 14 12 13,
 oJ 15 14 14,
 oT 16 (.callV (.u 11) [.u 15])]
 (cT 16
 (sR [oM 17 5,
 oV 4 17]
 .ret)
 .skip))))
 (.region [oU 18 (.bin .add (.t 8) (xI 1)),
 oV 8 18])))))))
 (sR [oI 4 (-1)]
 .ret))
def r91 : List LRes := [.slot 4]
theorem t91 : trOk Tryz.prog Tryz.f91 (vL [0, 1, 4, 5, 7, 8, 9, 16]) c91 r91 := ⟨by kernel_rfl, by kernel_rfl⟩
def c92 : LCode :=
 sR [oB 2 0,
 oP 3 false]
 (sR [oG 4 0 2,
 oL 5 1 4,
 oU 6 (.load false 1 (.t 1)),
 oU 7 (.bin .eql (.u 5) (.u 6)),
 oV 3 7]
 .ret)
def r92 : List LRes := [.slot 3]
theorem t92 : trOk Tryz.prog Tryz.f92 (vL [0, 1, 2, 3]) c92 r92 := ⟨by kernel_rfl, by kernel_rfl⟩
def c93 : LCode :=
 sR [oT 4 (.mov (.c (.fsl 1 0 [])))]
 (.seq (sR [oM 8 0,
 oU 9 (.lenL (.u 8)),
 oT 10 (.bin .eql (.u 9) (xI 0))]
 (cT 10
 (sR [oT 4 (.mov (.c (.fsl 1 0 [])))]
 .ret)
 .skip))
 (sR [oM 11 0,
 oU 12 (.lenL (.u 11)),
 oU 13 (.make 4 32 [zI, zI, zI, zI] (xI 0) (.u 12)),
 oV 5 13]
 (.seq (sR [oT 14 (.mov (.t 0)),
 oT 15 (.lenL (.t 14)),
 oI 16 0]
 (.block 0 (.loop (sR [oT 17 (.bin .lss (.t 16) (.t 15))]
 (.seq (cT 17
 .skip
 (.exit 0))
 (.seq (.block 1 (sR [oU 18 (.iaS 4 (.t 14) (.t 16)),
 oJ 19 4 18,
 oT 7 (.zero [zI, zI, zI, zI]),
 oS 4 7 19]
 (.region [oM 20 5,
 oM 21 1,
 oK 22 4 7,
 oU 23 (.callV (.u 21) [.u 22]),
 oU 24 (.mkS 4 1 [zI, zI, zI, zI] [(0, 4, .u 23)]),
 oU 25 (.app 4 32 (.u 20) (.u 24)),
 oV 5 25])))
 (.region [oU 26 (.bin .add (.t 16) (xI 1)),
 oV 16 26])))))))
 (sR [oM 27 5,
 oV 4 27]
 .ret))))
def r93 : List LRes := [.slot 4]
theorem t93 : trOk Tryz.prog Tryz.f93 (vL [0, 1, 4, 5, 7, 10, 14, 15, 16, 17]) c93 r93 := ⟨by kernel_rfl, by kernel_rfl⟩
def c94 : LCode :=
 sR [oB 1 0,
 oT 2 (.zero [zI, zI, zI, zI])]
 (sR [oK 3 4 1,
 oS 4 2 3]
 .ret)
def r94 : List LRes := [.cell true 4 2]
theorem t94 : trOk Tryz.prog Tryz.f94 (vL [0, 1, 2]) c94 r94 := ⟨by kernel_rfl, by kernel_rfl⟩
def c96 : LCode :=
 sR [oT 2 (.zero [.str [], zI, zI, zI, zI])]
 (.seq (sR [oM 3 0,
 oU 4 (.bin .lss (.u 3) (xI 0)),
 oW 5 4,
 oO 6 5 (.mov (.t 0)),
 oO 7 5 (.call 115 []),
 oO 8 5 (.bin .geq (.u 6) (.u 7)),
 oQ 9 5 8]
 (cT 9
 (sR [oU 10 (.build [.str [], zI, zI, zI, zI] []),
 oS 5 2 10]
 .ret)
 .skip))
 (sR [oC 11 116 [],
 oM 12 0,
 oA 13 5 11 12,
 oJ 14 5 13,
 oS 5 2 14]
 .ret))
def r96 : List LRes := [.cell true 5 2]
theorem t96 : trOk Tryz.prog Tryz.f96 (vL [0, 2, 9]) c96 r96 := ⟨by kernel_rfl, by kernel_rfl⟩
def c110 : LCode :=
 sR [oT 2 (.mov (.c (.str [])))]
 (.seq (sR [oM 3 0,
 oC 4 22 [.u 3, xI 20],
 oT 5 (.bin .eql (.u 4) (xI 19))]
 (cT 5
 (sR [oM 6 0,
 oU 7 (.mkS 1 8 [.str []] [(0, 1, (.c (.str []))), (1, 1, (.c (.str [46]))), (2, 1, (.c (.str [46, 46]))), (3, 1, (.c (.str [97, 47, 98]))), (4, 1, (.c (.str [97, 98, 99, 100, 101, 102, 103, 104, 105, 106, 107, 108]))), (5, 1, (.c (.str [97, 98, 99, 100, 101, 102, 103, 104, 105, 106, 107, 108, 109]))), (6, 1, (.c (.str [97, 0]))), (7, 1, (.c (.str [126])))]),
 oC 8 69 [.u 6, .u 7],
 oV 2 8]
 .ret)
 .skip))
 (sR [oM 9 0,
 oU 10 (.mkS 1 6 [.str []] [(0, 1, (.c (.str [97]))), (1, 1, (.c (.str [98]))), (2, 1, (.c (.str [99]))), (3, 1, (.c (.str [100]))), (4, 1, (.c (.str [108]))), (5, 1, (.c (.str [109])))]),
 oC 11 69 [.u 9, .u 10],
 oV 2 11]
 .ret))
def r110 : List LRes := [.slot 2]
theorem t110 : trOk Tryz.prog Tryz.f110 (vL [0, 2, 5]) c110 r110 := ⟨by kernel_rfl, by kernel_rfl⟩
def c111 : LCode :=
 sR [oT 4 (.mov (.c (.fsl 1 0 [])))]
 (.seq (sR [oM 8 0,
 oU 9 (.lenL (.u 8)),
 oT 10 (.bin .eql (.u 9) (xI 0))]
 (cT 10
 (sR [oT 4 (.mov (.c (.fsl 1 0 [])))]
 .ret)
 .skip))
 (sR [oM 11 0,
 oU 12 (.lenL (.u 11)),
 oU 13 (.make 14 144 [zI, zI, zI, zI, zI, zI, zI, zI, zI, zI, .str [], .str [], .fsl 1 0 [], .bool false] (xI 0) (.u 12)),
 oV 5 13]
 (.seq (sR [oT 14 (.mov (.t 0)),
 oT 15 (.lenL (.t 14)),
 oI 16 0]
 (.block 0 (.loop (sR [oT 17 (.bin .lss (.t 16) (.t 15))]
 (.seq (cT 17
 .skip
 (.exit 0))
 (.seq (.block 1 (sR [oU 18 (.iaS 14 (.t 14) (.t 16)),
 oJ 19 14 18,
 oT 7 (.zero [zI, zI, zI, zI, zI, zI, zI, zI, zI, zI, .str [], .str [], .fsl 1 0 [], .bool false]),
 oS 14 7 19]
 (.region [oM 20 5,
 oM 21 1,
 oK 22 14 7,
 oU 23 (.callV (.u 21) [.u 22]),
 oU 24 (.mkS 14 1 [zI, zI, zI, zI, zI, zI, zI, zI, zI, zI, .str [], .str [], .fsl 1 0 [], .bool false] [(0, 14, .u 23)]),
 oU 25 (.app 14 144 (.u 20) (.u 24)),
 oV 5 25])))
 (.region [oU 26 (.bin .add (.t 16) (xI 1)),
 oV 16 26])))))))
 (sR [oM 27 5,
 oV 4 27]
 .ret))))
def r111 : List LRes := [.slot 4]
theorem t111 : trOk Tryz.prog Tryz.f111 (vL [0, 1, 4, 5, 7, 10, 14, 15, 16, 17]) c111 r111 := ⟨by kernel_rfl, by kernel_rfl⟩
def c115 : LCode :=
 sR [oI 0 0]
 (sR [oC 1 116 [],
 oU 2 (.lenL (.u 1)),
 oV 0 2]
 .ret)
def r115 : List LRes := [.slot 0]
theorem t115 : trOk Tryz.prog Tryz.f115 (vL [0]) c115 r115 := ⟨by kernel_rfl, by kernel_rfl⟩
def c116 : LCode :=
 sR [oT 0 (.mov (.c (.fsl 1 0 [])))]
 (sR [oU 1 (.build [.str [], zI, zI, zI, zI] [(0, 1, (.c (.str [102, 111, 114, 107]))), (1, 1, xI 0), (2, 1, xI 0), (3, 1, xI 0), (4, 1, xI 0)]),
 oU 2 (.build [.str [], zI, zI, zI, zI] [(0, 1, (.c (.str [101, 120, 101, 99, 118, 101]))), (1, 1, xI 0), (2, 1, xI 1), (3, 1, xI 0), (4, 1, xI 4)]),
 oU 3 (.build [.str [], zI, zI, zI, zI] [(0, 1, (.c (.str [101, 120, 105, 116]))), (1, 1, xI 1), (2, 1, xI 0), (3, 1, xI 0), (4, 1, xI 0)]),
 oU 4 (.build [.str [], zI, zI, zI, zI] [(0, 1, (.c (.str [115, 101, 116, 117, 105, 100]))), (1, 1, xI 1), (2, 1, xI 0), (3, 1, xI 0), (4, 1, xI 0)]),
 oU 5 (.build [.str [], zI, zI, zI, zI] [(0, 1, (.c (.str [115, 101, 116, 103, 105, 100]))), (1, 1, xI 1), (2, 1, xI 0), (3, 1, xI 0), (4, 1, xI 0)]),
 oU 6 (.build [.str [], zI, zI, zI, zI] [(0, 1, (.c (.str [108, 111, 103, 105, 110]))), (1, 1, xI 1), (2, 1, xI 0), (3, 1, xI 0), (4, 1, xI 0)]),
 oU 7 (.build [.str [], zI, zI, zI, zI] [(0, 1, (.c (.str [111, 112, 101, 110]))), (1, 1, xI 2), (2, 1, xI 1), (3, 1, xI 0), (4, 1, xI 0)]),
 oU 8 (.build [.str [], zI, zI, zI, zI] [(0, 1, (.c (.str [99, 108, 111, 115, 101]))), (1, 1, xI 1), (2, 1, xI 0), (3, 1, xI 0), (4, 1, xI 0)]),
 oU 9 (.build [.str [], zI, zI, zI, zI] [(0, 1, (.c (.str [108, 105, 110, 107]))), (1, 1, xI 0), (2, 1, xI 2), (3, 1, xI 0), (4, 1, xI 0)]),
 oU 10 (.build [.str [], zI, zI, zI, zI] [(0, 1, (.c (.str [115, 121, 109, 108, 105, 110, 107]))), (1, 1, xI 0), (2, 1, xI 1), (3, 1, xI 1), (4, 1, xI 1)]),
 oU 11 (.build [.str [], zI, zI, zI, zI] [(0, 1, (.c (.str [117, 110, 108, 105, 110, 107]))), (1, 1, xI 0), (2, 1, xI 1), (3, 1, xI 0), (4, 1, xI 0)]),
 oU 12 (.build [.str [], zI, zI, zI, zI] [(0, 1, (.c (.str [109, 107, 100, 105, 114]))), (1, 1, xI 1), (2, 1, xI 1), (3, 1, xI 0), (4, 1, xI 0)]),
 oU 13 (.build [.str [], zI, zI, zI, zI] [(0, 1, (.c (.str [114, 109, 100, 105, 114]))), (1, 1, xI 0), (2, 1, xI 1), (3, 1, xI 0), (4, 1, xI 0)]),
 oU 14 (.build [.str [], zI, zI, zI, zI] [(0, 1, (.c (.str [114, 101, 110, 97, 109, 101]))), (1, 1, xI 0), (2, 1, xI 2), (3, 1, xI 0), (4, 1, xI 0)]),
 oU 15 (.build [.str [], zI, zI, zI, zI] [(0, 1, (.c (.str [99, 104, 109, 111, 100]))), (1, 1, xI 1), (2, 1, xI 1), (3, 1, xI 0), (4, 1, xI 0)]),
 oU 16 (.build [.str [], zI, zI, zI, zI] [(0, 1, (.c (.str [99, 104, 111, 119, 110]))), (1, 1, xI 2), (2, 1, xI 1), (3, 1, xI 0), (4, 1, xI 0)]),
 oU 17 (.build [.str [], zI, zI, zI, zI] [(0, 1, (.c (.str [99, 104, 100, 105, 114]))), (1, 1, xI 0), (2, 1, xI 1), (3, 1, xI 0), (4, 1, xI 0)]),
 oU 18 (.build [.str [], zI, zI, zI, zI] [(0, 1, (.c (.str [109, 111, 117, 110, 116]))), (1, 1, xI 1), (2, 1, xI 1), (3, 1, xI 0), (4, 1, xI 0)]),
 oU 19 (.build [.str [], zI, zI, zI, zI] [(0, 1, (.c (.str [117, 109, 111, 117, 110, 116]))), (1, 1, xI 1), (2, 1, xI 0), (3, 1, xI 0), (4, 1, xI 0)]),
 oU 20 (.build [.str [], zI, zI, zI, zI] [(0, 1, (.c (.str [99, 111, 110, 110, 101, 99, 116]))), (1, 1, xI 1), (2, 1, xI 0), (3, 1, xI 1), (4, 1, xI 1)]),
 oU 21 (.build [.str [], zI, zI, zI, zI] [(0, 1, (.c (.str [107, 105, 108, 108]))), (1, 1, xI 2), (2, 1, xI 0), (3, 1, xI 0), (4, 1, xI 0)]),
 oU 22 (.build [.str [], zI, zI, zI, zI] [(0, 1, (.c (.str [116, 114, 117, 110, 99, 97, 116, 101]))), (1, 1, xI 1), (2, 1, xI 1), (3, 1, xI 0), (4, 1, xI 0)]),
 oU 23 (.mkS 5 22 [.str [], zI, zI, zI, zI] [(0, 5, .u 1), (5, 5, .u 2), (10, 5, .u 3), (15, 5, .u 4), (20, 5, .u 5), (25, 5, .u 6), (30, 5, .u 7), (35, 5, .u 8), (40, 5, .u 9), (45, 5, .u 10), (50, 5, .u 11), (55, 5, .u 12), (60, 5, .u 13), (65, 5, .u 14), (70, 5, .u 15), (75, 5, .u 16), (80, 5, .u 17), (85, 5, .u 18), (90, 5, .u 19), (95, 5, .u 20), (100, 5, .u 21), (105, 5, .u 22)]),
 oV 0 23]
 .ret)
def r116 : List LRes := [.slot 0]
theorem t116 : trOk Tryz.prog Tryz.f116 (vL [0]) c116 r116 := ⟨by kernel_rfl, by kernel_rfl⟩
end Go.Proofs.YtkdblnejpmbnfaaGreat
namespace Go.Proofs.YtkdblnejpmbnfaaGreat
open Go Go.Lx
set_option linter.unusedSimpArgs false
set_option linter.unusedVariables false
def gl : Glob := fun _ => none
end Go.Proofs.YtkdblnejpmbnfaaGreat
namespace Go.Proofs.YtkdblnejpmbnfaaGreat
open Go.ChangeShapes Go.WideShapes Go.ChangeAt Go.RowKit Go.Lx
set_option linter.unusedSimpArgs false
set_option linter.unusedVariables false
theorem own : ownKnob Tryz.prog.godebug = none := by kernel_rfl
theorem laidOut : laidOutB Tryz.prog = true := by kernel_rfl
theorem glob {M : Imm} : ∀ g cs, gl g = some cs → RCs M g 0 cs := fun _ _ h => by cases h
/-- A world for the witness: the settled one. -/
noncomputable def laidWorld (os : Os) : World := World.holding Tryz.prog os ⟨#[], #[], []⟩
def tyBool : TypeId := 4
theorem undBool : Tryz.prog.underlying tyBool = some .bool := Tryz.underlying4
end Go.Proofs.YtkdblnejpmbnfaaGreat
namespace Go.Proofs.YtkdblnejpmbnfaaGreat
open Go Go.Lx
set_option maxRecDepth 100000
def c4 : LCode :=
 sR [oP 2 false]
 (sR [oM 7 0,
 oC 8 6 [.u 7],
 oV 3 8]
 (sR [oM 9 3,
 oC 10 7 [.u 9],
 oU 11 (.fld true 3 2 (.u 10)),
 oT 4 (.zero [zI, zI, .fsl 1 0 []]),
 oS 3 4 11]
 (sR [oM 12 3,
 oK 13 3 4,
 oC 14 13 [.u 12, .u 13],
 oT 5 (.zero [zI, zI, .fsl 1 0 []]),
 oS 3 5 14]
 (.seq (sR [oG 15 2 5,
 oL 16 1 15,
 oU 17 (.lenL (.u 16)),
 oT 18 (.bin .eql (.u 17) (xI 0))]
 (cT 18
 (sR [oK 19 3 4,
 oC 20 14 [.u 19],
 oW 21 20,
 oY 22 21 (.load true 3 (.t 5)),
 oY 23 21 (.call 14 [.u 22]),
 oY 24 21 (.un .not (.u 23)),
 oU 25 (.pick (.u 21) (.u 24) (.c (.bool false))),
 oW 26 25,
 oY 27 26 (.call 10 []),
 oU 28 (.pick (.u 26) (.u 27) (.c (.bool false))),
 oV 2 28]
 .ret)
 .skip))
 (sR [oM 29 3,
 oK 30 3 5,
 oC 31 13 [.u 29, .u 30],
 oT 6 (.zero [zI, zI, .fsl 1 0 []]),
 oS 3 6 31]
 (sD [dT 0 [4] (oK 32 3 4),
 dF 1 [32] (oC 33 14 [.u 32]),
 dF 2 [33] (oW 34 33),
 dT 3 [5, 34] (oY 35 34 (.load true 3 (.t 5))),
 dT 5 [5, 34] (oY 37 34 (.load true 3 (.t 5))),
 ⟨4, [35, 34], false, [5], oY 36 34 (.call 14 [.u 35])⟩,
 dF 6 [37, 34] (oY 38 34 (.call 15 [.u 37])),
 dF 7 [36, 38, 34] (oY 39 34 (.eqB false (.u 36) (.u 38))),
 dF 8 [34, 39] (oU 40 (.pick (.u 34) (.u 39) (.c (.bool false)))),
 dF 9 [40] (oW 41 40),
 dT 10 [6, 41] (oY 42 41 (.load true 3 (.t 6))),
 dT 12 [6, 41] (oY 44 41 (.load true 3 (.t 6))),
 ⟨11, [42, 41], false, [12], oY 43 41 (.call 14 [.u 42])⟩,
 dF 13 [44, 41] (oY 45 41 (.call 15 [.u 44])),
 dF 14 [43, 45, 41] (oY 46 41 (.eqB false (.u 43) (.u 45))),
 dF 15 [41, 46] (oU 47 (.pick (.u 41) (.u 46) (.c (.bool false)))),
 dF 16 [47] (oW 48 47),
 dF 17 [48] (oY 49 48 (.call 10 [])),
 dF 18 [48, 49] (oU 50 (.pick (.u 48) (.u 49) (.c (.bool false)))),
 dF 19 [50] (oV 2 50)]
 .ret))))))
def r4 : List LRes := [.slot 2]
theorem t4 : trOk Tryz.prog Tryz.f4 (vL [0, 2, 3, 4, 5, 6, 18]) c4 r4 := ⟨by kernel_rfl, by kernel_rfl⟩
end Go.Proofs.YtkdblnejpmbnfaaGreat
