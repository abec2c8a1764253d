/- Layer 21 (house): the law's own house, reckoned by the kernel. -/
import Derived.Test.YtdbjkklhgfhgnaaGreatOnE
import Derived.Test.YtdbjkklhgfhgnaaGreatSzP
namespace Go.Proofs.YtdbjkklhgfhgnaaGreat
open Go.RowKit Sz
set_option linter.unusedVariables false
set_option linter.unusedSimpArgs false
set_option maxHeartbeats 4000000
set_option maxRecDepth 20000
abbrev EFF : List FuncId := [12, 25, 26, 29, 30, 31, 32, 33, 34, 35, 52, 57, 73, 83, 84, 85, 88, 93, 95, 96, 100, 101, 102, 122, 133, 137, 138, 144, 148, 179, 185, 187, 193, 195, 199, 203, 216, 217, 218, 219, 220, 221, 222, 224, 225, 228, 229, 240, 249, 251, 252, 253, 254, 258, 259, 260, 261, 262, 263, 264, 265, 267, 268, 269, 270, 271, 273]
-- almshouse/almshouselaw21.HouseNone (1 parameters)
def x4 : XC := (.seq (.tree (.seq ⟨some 1, none, (.box (.tmp 0))⟩
  (.seq ⟨some 2, none, (.ofA (.mv (.cst (.v (.bool false)))))⟩
  .done)))
 (.seq (.seq (.tree (.seq ⟨some 8, none, (.call (.cst (.fn 24 [])) [])⟩
  (.seq ⟨some 9, none, (.ofA (.un .not (.tmp 8)))⟩
  .done)))
 (.cond (.tmp 9)
 (.seq (.tree (.seq ⟨some 2, none, (.ofA (.mv (.cst (.v (.bool false)))))⟩
  .done))
 .ret)
 .skip))
 (.seq (.tree (.seq ⟨some 3, none, (.ofA (.mv (.cst (.v (.pointer none)))))⟩
  .done))
 (.seq (.tree (.seq ⟨some 10, none, (.ofA (.mv (.tmp 3)))⟩
  (.seq ⟨some 11, none, (.call (.cst (.fn 25 [])) [(.tmp 10)])⟩
  .done)))
 (.seq (.tree (.seq ⟨some 12, none, (.ofA (.mv (.tmp 3)))⟩
  (.seq ⟨some 13, none, (.call (.cst (.fn 26 [])) [(.tmp 12), (.cst (.v (.int .i64 3)))])⟩
  .done)))
 (.seq (.tree (.seq ⟨some 15, none, (.ofA (.mv (.tmp 3)))⟩
  (.seq ⟨some 16, none, (.ofA (.faddr 1 (.tmp 1)))⟩
  (.seq ⟨some 17, none, (.ofA (.load none (.tmp 16)))⟩
  (.seq ⟨some 18, none, (.call (.cst (.fn 27 [])) [(.tmp 15), (.tmp 17)])⟩
  (.seq ⟨some 14, none, (.ofA (.mv (.tmp 18)))⟩
  (.seq ⟨some 19, none, (.ofA (.extract 0 (.tmp 14)))⟩
  (.seq ⟨some 20, none, (.ofA (.extract 1 (.tmp 14)))⟩
  (.seq ⟨some 4, none, (.alloc [(.v (.int .i64 0)), (.v (.int .i64 0)), (.v (.int .i64 0)), (.v (.int .i64 0)), (.v (.int .i64 0)), (.v (.int .i64 0)), (.v (.bool false)), (.v (.int .i64 0)), (.v (.int .i64 0))])⟩
  (.seq ⟨none, none, (.store 9 (.tmp 4) (.tmp 19))⟩
  (.seq ⟨some 5, none, (.ofA (.mv (.tmp 20)))⟩
  .done)))))))))))
 (.seq (.tree (.seq ⟨some 22, none, (.ofA (.mv (.tmp 3)))⟩
  (.seq ⟨some 23, none, (.ofA (.faddr 1 (.tmp 1)))⟩
  (.seq ⟨some 24, none, (.ofA (.load none (.tmp 23)))⟩
  (.seq ⟨some 25, none, (.call (.cst (.fn 28 [])) [(.tmp 22), (.tmp 24), (.cst (.v (.int .i64 0)))])⟩
  (.seq ⟨some 21, none, (.ofA (.mv (.tmp 25)))⟩
  (.seq ⟨some 26, none, (.ofA (.extract 0 (.tmp 21)))⟩
  (.seq ⟨some 27, none, (.ofA (.extract 1 (.tmp 21)))⟩
  (.seq ⟨some 6, none, (.ofA (.mv (.tmp 26)))⟩
  (.seq ⟨some 7, none, (.ofA (.mv (.tmp 27)))⟩
  .done))))))))))
 (.seq (.tree (.seq ⟨some 28, none, (.ofA (.mv (.tmp 3)))⟩
  (.seq ⟨some 29, none, (.ofA (.faddr 1 (.tmp 1)))⟩
  (.seq ⟨some 30, none, (.ofA (.load none (.tmp 29)))⟩
  (.seq ⟨some 31, none, (.ofA (.faddr 3 (.tmp 1)))⟩
  (.seq ⟨some 32, none, (.ofA (.load none (.tmp 31)))⟩
  (.seq ⟨some 33, none, (.ofA (.faddr 4 (.tmp 1)))⟩
  (.seq ⟨some 34, none, (.ofA (.load none (.tmp 33)))⟩
  (.seq ⟨some 35, none, (.call (.cst (.fn 29 [])) [(.tmp 28), (.tmp 30), (.tmp 32), (.tmp 34)])⟩
  (.seq ⟨some 36, none, (.ofA (.bin .eql (.tmp 35) (.cst (.v (.int .i64 12)))))⟩
  (.seq ⟨some 37, none, (.ofA (.mv (.tmp 36)))⟩
  (.seq ⟨some 38, some (37, true), (.ofA (.mv (.tmp 3)))⟩
  (.seq ⟨some 39, some (37, true), (.ofA (.faddr 1 (.tmp 1)))⟩
  (.seq ⟨some 40, some (37, true), (.ofA (.load none (.tmp 39)))⟩
  (.seq ⟨some 41, some (37, true), (.call (.cst (.fn 30 [])) [(.tmp 38), (.tmp 40)])⟩
  (.seq ⟨some 42, some (37, true), (.ofA (.bin .eql (.tmp 41) (.cst (.v (.int .i64 12)))))⟩
  (.seq ⟨some 43, none, (.ofA (.pick (.tmp 37) (.tmp 42) (.cst (.v (.bool false)))))⟩
  (.seq ⟨some 44, none, (.ofA (.mv (.tmp 43)))⟩
  (.seq ⟨some 45, some (44, true), (.ofA (.mv (.tmp 3)))⟩
  (.seq ⟨some 46, some (44, true), (.ofA (.faddr 1 (.tmp 1)))⟩
  (.seq ⟨some 47, some (44, true), (.ofA (.load none (.tmp 46)))⟩
  (.seq ⟨some 48, some (44, true), (.call (.cst (.fn 31 [])) [(.tmp 45), (.tmp 47), (.cst (.v (.int .i64 3)))])⟩
  (.seq ⟨some 49, some (44, true), (.ofA (.bin .eql (.tmp 48) (.cst (.v (.int .i64 12)))))⟩
  (.seq ⟨some 50, none, (.ofA (.pick (.tmp 44) (.tmp 49) (.cst (.v (.bool false)))))⟩
  (.seq ⟨some 51, none, (.ofA (.mv (.tmp 50)))⟩
  (.seq ⟨some 52, some (51, true), (.ofA (.mv (.tmp 3)))⟩
  (.seq ⟨some 53, some (51, true), (.ofA (.faddr 1 (.tmp 1)))⟩
  (.seq ⟨some 54, some (51, true), (.ofA (.load none (.tmp 53)))⟩
  (.seq ⟨some 55, some (51, true), (.ofA (.faddr 2 (.tmp 1)))⟩
  (.seq ⟨some 56, some (51, true), (.ofA (.load none (.tmp 55)))⟩
  (.seq ⟨some 57, some (51, true), (.call (.cst (.fn 32 [])) [(.tmp 52), (.tmp 54), (.tmp 56)])⟩
  (.seq ⟨some 58, some (51, true), (.ofA (.bin .eql (.tmp 57) (.cst (.v (.int .i64 12)))))⟩
  (.seq ⟨some 59, none, (.ofA (.pick (.tmp 51) (.tmp 58) (.cst (.v (.bool false)))))⟩
  (.seq ⟨some 60, none, (.ofA (.mv (.tmp 59)))⟩
  (.seq ⟨some 61, some (60, true), (.ofA (.mv (.tmp 3)))⟩
  (.seq ⟨some 62, some (60, true), (.ofA (.faddr 1 (.tmp 1)))⟩
  (.seq ⟨some 63, some (60, true), (.ofA (.load none (.tmp 62)))⟩
  (.seq ⟨some 64, some (60, true), (.ofA (.faddr 5 (.tmp 1)))⟩
  (.seq ⟨some 65, some (60, true), (.ofA (.load (some 3) (.tmp 64)))⟩
  (.seq ⟨some 66, some (60, true), (.call (.cst (.fn 33 [])) [(.tmp 61), (.tmp 63), (.tmp 65)])⟩
  (.seq ⟨some 67, some (60, true), (.ofA (.bin .eql (.tmp 66) (.cst (.v (.int .i64 12)))))⟩
  (.seq ⟨some 68, none, (.ofA (.pick (.tmp 60) (.tmp 67) (.cst (.v (.bool false)))))⟩
  (.seq ⟨some 69, none, (.ofA (.mv (.tmp 68)))⟩
  (.seq ⟨some 70, some (69, true), (.ofA (.mv (.tmp 3)))⟩
  (.seq ⟨some 71, some (69, true), (.ofA (.faddr 3 (.tmp 1)))⟩
  (.seq ⟨some 72, some (69, true), (.ofA (.load none (.tmp 71)))⟩
  (.seq ⟨some 73, some (69, true), (.call (.cst (.fn 34 [])) [(.tmp 70), (.tmp 72)])⟩
  (.seq ⟨some 74, some (69, true), (.ofA (.bin .eql (.tmp 73) (.cst (.v (.int .i64 12)))))⟩
  (.seq ⟨some 75, none, (.ofA (.pick (.tmp 69) (.tmp 74) (.cst (.v (.bool false)))))⟩
  (.seq ⟨some 76, none, (.ofA (.mv (.tmp 75)))⟩
  (.seq ⟨some 77, some (76, true), (.ofA (.mv (.tmp 3)))⟩
  (.seq ⟨some 78, some (76, true), (.call (.cst (.fn 35 [])) [(.tmp 77)])⟩
  (.seq ⟨some 79, some (76, true), (.ofA (.un .not (.tmp 78)))⟩
  (.seq ⟨some 80, none, (.ofA (.pick (.tmp 76) (.tmp 79) (.cst (.v (.bool false)))))⟩
  (.seq ⟨some 81, none, (.ofA (.mv (.tmp 80)))⟩
  (.seq ⟨some 82, some (81, true), (.ofA (.mv (.tmp 3)))⟩
  (.seq ⟨some 83, some (81, true), (.call (.cst (.fn 36 [])) [(.tmp 82)])⟩
  (.seq ⟨some 84, some (81, true), (.ofA (.un .not (.tmp 83)))⟩
  (.seq ⟨some 85, none, (.ofA (.pick (.tmp 81) (.tmp 84) (.cst (.v (.bool false)))))⟩
  (.seq ⟨some 86, none, (.ofA (.mv (.tmp 85)))⟩
  (.seq ⟨some 87, some (86, true), (.ofA (.mv (.tmp 5)))⟩
  (.seq ⟨some 88, some (86, true), (.ofA (.bin .eql (.tmp 87) (.cst (.v (.int .i64 12)))))⟩
  (.seq ⟨some 89, none, (.ofA (.pick (.tmp 86) (.tmp 88) (.cst (.v (.bool false)))))⟩
  (.seq ⟨some 90, none, (.ofA (.mv (.tmp 89)))⟩
  (.seq ⟨some 91, some (90, true), (.ofA (.mv (.tmp 7)))⟩
  (.seq ⟨some 92, some (90, true), (.ofA (.bin .eql (.tmp 91) (.cst (.v (.int .i64 12)))))⟩
  (.seq ⟨some 93, none, (.ofA (.pick (.tmp 90) (.tmp 92) (.cst (.v (.bool false)))))⟩
  (.seq ⟨some 94, none, (.ofA (.mv (.tmp 93)))⟩
  (.seq ⟨some 95, some (94, true), (.ofA (.mv (.tmp 3)))⟩
  (.seq ⟨some 96, some (94, true), (.call (.cst (.fn 37 [])) [(.tmp 95)])⟩
  (.seq ⟨some 97, some (94, true), (.ofA (.mv (.tmp 3)))⟩
  (.seq ⟨some 98, some (94, true), (.call (.cst (.fn 38 [])) [(.tmp 97)])⟩
  (.seq ⟨some 99, some (94, true), (.ofA (.bin .add (.tmp 96) (.tmp 98)))⟩
  (.seq ⟨some 100, some (94, true), (.ofA (.mv (.tmp 3)))⟩
  (.seq ⟨some 101, some (94, true), (.call (.cst (.fn 39 [])) [(.tmp 100), (.cst (.v (.int .i64 0)))])⟩
  (.seq ⟨some 102, some (94, true), (.ofA (.len (.tmp 101)))⟩
  (.seq ⟨some 103, some (94, true), (.ofA (.bin .add (.tmp 99) (.tmp 102)))⟩
  (.seq ⟨some 104, some (94, true), (.ofA (.bin .eql (.tmp 103) (.cst (.v (.int .i64 0)))))⟩
  (.seq ⟨some 105, none, (.ofA (.pick (.tmp 94) (.tmp 104) (.cst (.v (.bool false)))))⟩
  (.seq ⟨some 106, none, (.ofA (.mv (.tmp 105)))⟩
  (.seq ⟨some 107, some (106, true), (.ofA (.mv (.tmp 3)))⟩
  (.seq ⟨some 108, some (106, true), (.call (.cst (.fn 40 [])) [(.tmp 107)])⟩
  (.seq ⟨some 109, some (106, true), (.ofA (.eqn false 1 (.tmp 108) (.cst (.v (.pointer none)))))⟩
  (.seq ⟨some 110, none, (.ofA (.pick (.tmp 106) (.tmp 109) (.cst (.v (.bool false)))))⟩
  (.seq ⟨some 111, none, (.ofA (.mv (.tmp 110)))⟩
  (.seq ⟨some 112, some (111, true), (.ofA (.mv (.tmp 3)))⟩
  (.seq ⟨some 113, some (111, true), (.call (.cst (.fn 42 [])) [(.tmp 112)])⟩
  (.seq ⟨some 114, some (111, true), (.build [(.v (.int .i64 0)), (.v (.int .i64 0)), (.v (.bool false)), (.v (.int .i64 0)), (.v (.int .i64 0)), (.v (.int .i64 0)), (.v (.slice none 0 0)), (.v (.bool false)), (.v (.int .i64 0)), (.v (.int .i64 0)), (.v (.int .i64 0)), (.v (.slice none 0 0)), (.v (.bool false)), (.v (.int .i64 0)), (.v (.int .i64 0)), (.v (.int .i64 0)), (.v (.slice none 0 0)), (.v (.bool false)), (.v (.int .i64 0)), (.v (.int .i64 0)), (.v (.int .i64 0)), (.v (.slice none 0 0))] [])⟩
  (.seq ⟨some 115, some (111, true), (.call (.cst (.fn 41 [])) [(.tmp 113), (.tmp 114)])⟩
  (.seq ⟨some 116, none, (.ofA (.pick (.tmp 111) (.tmp 115) (.cst (.v (.bool false)))))⟩
  (.seq ⟨some 2, none, (.ofA (.mv (.tmp 116)))⟩
  .done)))))))))))))))))))))))))))))))))))))))))))))))))))))))))))))))))))))))))))))))))))))))))))
 .ret))))))))
def r4 : List XR := [.tmp 2]
theorem fn4 : FnX Tryz.prog 4 EFF 117 x4 r4 := ⟨_, Tryz.func4, by kernel_rfl, by kernel_rfl, by kernel_rfl, by kernel_rfl⟩
-- (*almshouse/store.Store).Read (2 parameters)
def x7 : XC := (.seq (.tree (.seq ⟨some 4, none, (.ofA (.mv (.cst (.v (.string ⟨#[]⟩)))))⟩
  (.seq ⟨some 5, none, (.ofA (.mv (.cst (.v (.int .i64 0)))))⟩
  .done)))
 (.seq (.seq (.tree (.seq ⟨some 14, none, (.ofA (.mv (.tmp 0)))⟩
  (.seq ⟨some 15, none, (.ofA (.mv (.tmp 1)))⟩
  (.seq ⟨some 16, none, (.call (.cst (.fn 47 [])) [(.tmp 14), (.tmp 15)])⟩
  (.seq ⟨some 6, none, (.ofA (.mv (.tmp 16)))⟩
  .done)))))
 (.seq (.tree (.seq ⟨some 17, none, (.ofA (.mv (.tmp 6)))⟩
  (.seq ⟨some 18, none, (.ofA (.bin .neq (.tmp 17) (.cst (.v (.int .i64 0)))))⟩
  .done)))
 (.cond (.tmp 18)
 (.seq (.tree (.seq ⟨some 19, none, (.ofA (.mv (.tmp 6)))⟩
  (.seq ⟨some 4, none, (.ofA (.mv (.cst (.v (.string ⟨#[]⟩)))))⟩
  (.seq ⟨some 5, none, (.ofA (.mv (.tmp 19)))⟩
  .done))))
 .ret)
 .skip)))
 (.seq (.seq (.tree (.seq ⟨some 21, none, (.ofA (.mv (.tmp 0)))⟩
  (.seq ⟨some 22, none, (.ofA (.nilc (.tmp 21)))⟩
  (.seq ⟨some 23, none, (.ofA (.faddr 8 (.tmp 22)))⟩
  (.seq ⟨some 24, none, (.ofA (.load none (.tmp 23)))⟩
  (.seq ⟨some 25, none, (.ofA (.mv (.tmp 1)))⟩
  (.seq ⟨some 26, none, (.call (.cst (.fn 48 [])) [(.tmp 24), (.tmp 25)])⟩
  (.seq ⟨some 20, none, (.ofA (.mv (.tmp 26)))⟩
  (.seq ⟨some 27, none, (.ofA (.extract 0 (.tmp 20)))⟩
  (.seq ⟨some 28, none, (.ofA (.extract 1 (.tmp 20)))⟩
  (.seq ⟨some 7, none, (.alloc [(.v (.int .i64 0)), (.v (.int .i64 0)), (.v (.string ⟨#[]⟩))])⟩
  (.seq ⟨none, none, (.store 3 (.tmp 7) (.tmp 27))⟩
  (.seq ⟨some 8, none, (.ofA (.mv (.tmp 28)))⟩
  .done)))))))))))))
 (.seq (.tree (.seq ⟨some 29, none, (.ofA (.mv (.tmp 8)))⟩
  .done))
 (.cond (.tmp 29)
 (.seq (.tree (.seq ⟨some 30, none, (.ofA (.faddr 2 (.tmp 7)))⟩
  (.seq ⟨some 31, none, (.ofA (.load none (.tmp 30)))⟩
  (.seq ⟨some 4, none, (.ofA (.mv (.tmp 31)))⟩
  (.seq ⟨some 5, none, (.ofA (.mv (.cst (.v (.int .i64 0)))))⟩
  .done)))))
 .ret)
 .skip)))
 (.seq (.tree (.seq ⟨some 33, none, (.ofA (.mv (.tmp 0)))⟩
  (.seq ⟨some 34, none, (.ofA (.nilc (.tmp 33)))⟩
  (.seq ⟨some 35, none, (.ofA (.faddr 7 (.tmp 34)))⟩
  (.seq ⟨some 36, none, (.ofA (.load none (.tmp 35)))⟩
  (.seq ⟨some 37, none, (.ofA (.mv (.tmp 1)))⟩
  (.seq ⟨some 38, none, (.call (.cst (.fn 49 [])) [(.tmp 36), (.tmp 37)])⟩
  (.seq ⟨some 32, none, (.ofA (.mv (.tmp 38)))⟩
  (.seq ⟨some 39, none, (.ofA (.extract 0 (.tmp 32)))⟩
  (.seq ⟨some 40, none, (.ofA (.extract 1 (.tmp 32)))⟩
  (.seq ⟨some 41, none, (.ofA (.extract 2 (.tmp 32)))⟩
  (.seq ⟨some 9, none, (.ofA (.mv (.tmp 39)))⟩
  (.seq ⟨some 10, none, (.ofA (.mv (.tmp 40)))⟩
  (.seq ⟨some 11, none, (.ofA (.mv (.tmp 41)))⟩
  .done))))))))))))))
 (.seq (.seq (.tree (.seq ⟨some 42, none, (.ofA (.mv (.tmp 11)))⟩
  (.seq ⟨some 43, none, (.ofA (.un .not (.tmp 42)))⟩
  .done)))
 (.cond (.tmp 43)
 (.seq (.tree (.seq ⟨some 4, none, (.ofA (.mv (.cst (.v (.string ⟨#[]⟩)))))⟩
  (.seq ⟨some 5, none, (.ofA (.mv (.cst (.v (.int .i64 0)))))⟩
  .done)))
 .ret)
 .skip))
 (.seq (.tree (.take ⟨some 45, none, (.ofA (.mv (.tmp 0)))⟩
  (.take ⟨some 46, none, (.ofA (.nilc (.tmp 45)))⟩
  (.take ⟨some 47, none, (.ofA (.faddr 0 (.tmp 46)))⟩
  (.take ⟨some 48, none, (.ofA (.load none (.tmp 47)))⟩
  (.take ⟨some 49, none, (.ofA (.mv (.tmp 0)))⟩
  (.take ⟨some 50, none, (.ofA (.nilc (.tmp 49)))⟩
  (.take ⟨some 51, none, (.ofA (.faddr 2 (.tmp 50)))⟩
  (.take ⟨some 52, none, (.ofA (.faddr 4 (.tmp 51)))⟩
  (.take ⟨some 53, none, (.ofA (.load none (.tmp 52)))⟩
  (.take ⟨some 54, none, (.ofA (.mv (.tmp 9)))⟩
  (.take ⟨some 55, none, (.ofA (.mv (.tmp 10)))⟩
  (.alt [true, true] [(⟨some 56, none, (.call (.cst (.fn 50 [])) [(.tmp 48), (.tmp 53), (.tmp 54), (.tmp 55)])⟩,
 (.take ⟨some 44, none, (.ofA (.mv (.tmp 56)))⟩
  (.take ⟨some 57, none, (.ofA (.extract 0 (.tmp 44)))⟩
  (.take ⟨some 58, none, (.ofA (.extract 1 (.tmp 44)))⟩
  (.alt [true] [(⟨some 12, none, (.alloc [(.v (.int .i64 0)), (.v (.int .i64 0)), (.v (.bool false)), (.v (.int .i64 0)), (.v (.int .i64 0)), (.v (.int .i64 0)), (.v (.int .i64 0)), (.v (.int .i64 0)), (.v (.bool false)), (.v (.string ⟨#[]⟩))])⟩,
 (.alt [false] [(⟨none, none, (.store 10 (.tmp 12) (.tmp 57))⟩,
 (.take ⟨some 13, none, (.ofA (.mv (.tmp 58)))⟩
  .done))]))]))))), (⟨some 12, none, (.alloc [(.v (.int .i64 0)), (.v (.int .i64 0)), (.v (.bool false)), (.v (.int .i64 0)), (.v (.int .i64 0)), (.v (.int .i64 0)), (.v (.int .i64 0)), (.v (.int .i64 0)), (.v (.bool false)), (.v (.string ⟨#[]⟩))])⟩,
 (.alt [true] [(⟨some 56, none, (.call (.cst (.fn 50 [])) [(.tmp 48), (.tmp 53), (.tmp 54), (.tmp 55)])⟩,
 (.take ⟨some 44, none, (.ofA (.mv (.tmp 56)))⟩
  (.take ⟨some 57, none, (.ofA (.extract 0 (.tmp 44)))⟩
  (.take ⟨some 58, none, (.ofA (.extract 1 (.tmp 44)))⟩
  (.alt [false] [(⟨none, none, (.store 10 (.tmp 12) (.tmp 57))⟩,
 (.take ⟨some 13, none, (.ofA (.mv (.tmp 58)))⟩
  .done))])))))]))])))))))))))))
 (.seq (.seq (.tree (.seq ⟨some 59, none, (.ofA (.mv (.tmp 13)))⟩
  (.seq ⟨some 60, none, (.ofA (.bin .neq (.tmp 59) (.cst (.v (.int .i64 0)))))⟩
  (.seq ⟨some 61, none, (.ofA (.mv (.tmp 60)))⟩
  (.seq ⟨some 62, some (61, false), (.ofA (.faddr 3 (.tmp 12)))⟩
  (.seq ⟨some 63, some (61, false), (.ofA (.faddr 4 (.tmp 62)))⟩
  (.seq ⟨some 64, some (61, false), (.ofA (.load none (.tmp 63)))⟩
  (.seq ⟨some 65, some (61, false), (.ofA (.bin .eql (.tmp 64) (.cst (.v (.int .i64 2)))))⟩
  (.seq ⟨some 66, none, (.ofA (.pick (.tmp 61) (.cst (.v (.bool true))) (.tmp 65)))⟩
  .done)))))))))
 (.cond (.tmp 66)
 (.seq (.tree (.seq ⟨some 67, none, (.ofA (.mv (.tmp 13)))⟩
  (.seq ⟨some 4, none, (.ofA (.mv (.cst (.v (.string ⟨#[]⟩)))))⟩
  (.seq ⟨some 5, none, (.ofA (.mv (.tmp 67)))⟩
  .done))))
 .ret)
 .skip))
 (.seq (.tree (.seq ⟨some 68, none, (.ofA (.faddr 9 (.tmp 12)))⟩
  (.seq ⟨some 69, none, (.ofA (.load none (.tmp 68)))⟩
  (.seq ⟨some 4, none, (.ofA (.mv (.tmp 69)))⟩
  (.seq ⟨some 5, none, (.ofA (.mv (.cst (.v (.int .i64 0)))))⟩
  .done)))))
 .ret))))))))
def r7 : List XR := [.tmp 4, .tmp 5]
theorem fn7 : FnX Tryz.prog 7 EFF 70 x7 r7 := ⟨_, Tryz.func7, by kernel_rfl, by kernel_rfl, by kernel_rfl, by kernel_rfl⟩
-- almshouse/store.New (3 parameters)
def x11 : XC := (.seq (.tree (.seq ⟨some 5, none, (.box (.tmp 2))⟩
  (.seq ⟨some 6, none, (.ofA (.mv (.cst (.v (.pointer none)))))⟩
  (.seq ⟨some 7, none, (.ofA (.mv (.cst (.v (.int .i64 0)))))⟩
  .done))))
 (.seq (.seq (.tree (.seq ⟨some 9, none, (.ofA (.mv (.tmp 0)))⟩
  (.seq ⟨some 10, none, (.ofA (.eqn false 1 (.tmp 9) (.cst (.v (.pointer none)))))⟩
  (.seq ⟨some 11, none, (.ofA (.mv (.tmp 10)))⟩
  (.seq ⟨some 12, some (11, false), (.ofA (.mv (.tmp 1)))⟩
  (.seq ⟨some 13, some (11, false), (.ofA (.bin .lss (.tmp 12) (.cst (.v (.int .i64 0)))))⟩
  (.seq ⟨some 14, none, (.ofA (.pick (.tmp 11) (.cst (.v (.bool true))) (.tmp 13)))⟩
  (.seq ⟨some 15, none, (.ofA (.mv (.tmp 14)))⟩
  (.seq ⟨some 16, some (15, false), (.ofA (.mv (.tmp 1)))⟩
  (.seq ⟨some 17, some (15, false), (.ofA (.bin .geq (.tmp 16) (.cst (.v (.int .i64 4)))))⟩
  (.seq ⟨some 18, none, (.ofA (.pick (.tmp 15) (.cst (.v (.bool true))) (.tmp 17)))⟩
  (.seq ⟨some 19, none, (.ofA (.mv (.tmp 18)))⟩
  (.seq ⟨some 20, some (19, false), (.ofA (.faddr 0 (.tmp 5)))⟩
  (.seq ⟨some 21, some (19, false), (.ofA (.load none (.tmp 20)))⟩
  (.seq ⟨some 22, some (19, false), (.ofA (.un .not (.tmp 21)))⟩
  (.seq ⟨some 23, none, (.ofA (.pick (.tmp 19) (.cst (.v (.bool true))) (.tmp 22)))⟩
  .done))))))))))))))))
 (.cond (.tmp 23)
 (.seq (.tree (.seq ⟨some 6, none, (.ofA (.mv (.cst (.v (.pointer none)))))⟩
  (.seq ⟨some 7, none, (.ofA (.mv (.cst (.v (.int .i64 1)))))⟩
  .done)))
 .ret)
 .skip))
 (.seq (.tree (.take ⟨some 24, none, (.ofA (.faddr 4 (.tmp 5)))⟩
  (.take ⟨some 25, none, (.ofA (.load none (.tmp 24)))⟩
  (.take ⟨some 26, none, (.ofA (.len (.tmp 25)))⟩
  (.take ⟨some 27, none, (.ofA (.mv (.tmp 0)))⟩
  (.act true [(⟨some 28, none, (.call (.cst (.fn 54 [])) [(.tmp 27)])⟩,
 (.take ⟨some 29, none, (.ofA (.field 3 none (.tmp 28)))⟩
  (.act true [(⟨some 30, none, (.call (.cst (.fn 53 [])) [(.tmp 26), (.tmp 29)])⟩,
 (.take ⟨some 8, none, (.ofA (.mv (.tmp 30)))⟩
  .done))])))]))))))
 (.seq (.seq (.tree (.seq ⟨some 31, none, (.ofA (.mv (.tmp 8)))⟩
  (.seq ⟨some 32, none, (.ofA (.eqn false 1 (.tmp 31) (.cst (.v (.pointer none)))))⟩
  .done)))
 (.cond (.tmp 32)
 (.seq (.tree (.seq ⟨some 6, none, (.ofA (.mv (.cst (.v (.pointer none)))))⟩
  (.seq ⟨some 7, none, (.ofA (.mv (.cst (.v (.int .i64 1)))))⟩
  .done)))
 .ret)
 .skip))
 (.seq (.tree (.seq ⟨some 33, none, (.ofA (.faddr 4 (.tmp 5)))⟩
  (.seq ⟨some 34, none, (.ofA (.load none (.tmp 33)))⟩
  (.seq ⟨some 35, none, (.call (.cst (.fn 55 [])) [(.tmp 34)])⟩
  (.seq ⟨some 36, none, (.ofA (.faddr 4 (.tmp 5)))⟩
  (.seq ⟨none, none, (.store 1 (.tmp 36) (.tmp 35))⟩
  .done))))))
 (.seq (.tree (.take ⟨some 37, none, (.ofA (.mv (.tmp 0)))⟩
  (.take ⟨some 38, none, (.ofA (.mv (.tmp 1)))⟩
  (.take ⟨some 39, none, (.ofA (.load (some 5) (.tmp 5)))⟩
  (.take ⟨some 40, none, (.ofA (.mv (.tmp 8)))⟩
  (.act true [(⟨some 41, none, (.call (.cst (.fn 56 [])) [])⟩,
 (.act true [(⟨some 42, none, (.build [(.v (.pointer none)), (.v (.int .i64 0)), (.v (.bool false)), (.v (.int .i64 0)), (.v (.int .i64 0)), (.v (.int .i64 0)), (.v (.slice none 0 0)), (.v (.pointer none)), (.v (.pointer none)), (.v (.int .i64 0)), (.v (.int .i64 0)), (.v (.bool false))] [(0, 1, (.tmp 37)), (1, 1, (.tmp 38)), (2, 5, (.tmp 39)), (7, 1, (.tmp 40)), (8, 1, (.tmp 41)), (10, 1, (.cst (.v (.int .i64 (-1)))))])⟩,
 (.act true [(⟨some 43, none, (.box (.tmp 42))⟩,
 (.take ⟨some 6, none, (.ofA (.mv (.tmp 43)))⟩
  (.take ⟨some 7, none, (.ofA (.mv (.cst (.v (.int .i64 0)))))⟩
  .done)))]))]))]))))))
 .ret))))))
def r11 : List XR := [.tmp 6, .tmp 7]
theorem fn11 : FnX Tryz.prog 11 EFF 44 x11 r11 := ⟨_, Tryz.func11, by kernel_rfl, by kernel_rfl, by kernel_rfl, by kernel_rfl⟩
-- (*almshouse/store.Store).Write (3 parameters)
def x12 : XC := (.seq (.tree (.seq ⟨some 6, none, (.ofA (.mv (.cst (.v (.int .i64 0)))))⟩
  .done))
 (.seq (.tree (.seq ⟨some 7, none, (.ofA (.mv (.tmp 0)))⟩
  (.seq ⟨some 8, none, (.ofA (.mv (.tmp 1)))⟩
  (.seq ⟨some 9, none, (.ofA (.mv (.tmp 2)))⟩
  (.seq ⟨some 10, none, (.build [(.v (.int .i64 0)), (.v (.int .i64 0)), (.v (.string ⟨#[]⟩))] [(0, 1, (.tmp 8)), (1, 1, (.cst (.v (.int .i64 1)))), (2, 1, (.tmp 9))])⟩
  (.seq ⟨some 11, none, (.call (.cst (.fn 57 [])) [(.tmp 7), (.tmp 10)])⟩
  (.seq ⟨some 6, none, (.ofA (.mv (.tmp 11)))⟩
  .done)))))))
 .ret))
def r12 : List XR := [.tmp 6]
theorem fn12 : FnX Tryz.prog 12 EFF 12 x12 r12 := ⟨_, Tryz.func12, by kernel_rfl, by kernel_rfl, by kernel_rfl, by kernel_rfl⟩
-- (*almshouse/store.Store).ReadOnly (1 parameters)
def x18 : XC := (.seq (.tree (.seq ⟨some 2, none, (.ofA (.mv (.cst (.v (.bool false)))))⟩
  .done))
 (.seq (.tree (.seq ⟨some 3, none, (.ofA (.mv (.tmp 0)))⟩
  (.seq ⟨some 4, none, (.ofA (.eqn false 1 (.tmp 3) (.cst (.v (.pointer none)))))⟩
  (.seq ⟨some 5, none, (.ofA (.mv (.tmp 4)))⟩
  (.seq ⟨some 6, some (5, false), (.ofA (.mv (.tmp 0)))⟩
  (.seq ⟨some 7, some (5, false), (.ofA (.nilc (.tmp 6)))⟩
  (.seq ⟨some 8, some (5, false), (.ofA (.faddr 11 (.tmp 7)))⟩
  (.seq ⟨some 9, some (5, false), (.ofA (.load none (.tmp 8)))⟩
  (.seq ⟨some 10, none, (.ofA (.pick (.tmp 5) (.cst (.v (.bool true))) (.tmp 9)))⟩
  (.seq ⟨some 2, none, (.ofA (.mv (.tmp 10)))⟩
  .done))))))))))
 .ret))
def r18 : List XR := [.tmp 2]
theorem fn18 : FnX Tryz.prog 18 EFF 11 x18 r18 := ⟨_, Tryz.func18, by kernel_rfl, by kernel_rfl, by kernel_rfl, by kernel_rfl⟩
-- (*almshouse/store.Store).Free (1 parameters)
def x19 : XC := (.seq (.tree (.seq ⟨some 2, none, (.ofA (.mv (.cst (.v (.slice none 0 0)))))⟩
  .done))
 (.seq (.tree (.seq ⟨some 3, none, (.ofA (.mv (.cst (.v (.slice none 0 0)))))⟩
  .done))
 (.seq (.seq (.tree (.seq ⟨some 5, none, (.ofA (.mv (.tmp 0)))⟩
  (.seq ⟨some 6, none, (.call (.cst (.fn 23 [])) [(.tmp 5)])⟩
  (.seq ⟨some 7, none, (.ofA (.len (.tmp 6)))⟩
  (.seq ⟨some 8, none, (.ofA (.mv (.cst (.v (.int .i64 0)))))⟩
  .done)))))
 (.block 0 (.loop (.seq (.tree (.seq ⟨some 9, none, (.ofA (.bin .lss (.tmp 8) (.tmp 7)))⟩
  .done))
 (.seq (.cond (.tmp 9)
 .skip
 (.exit 0))
 (.seq (.block 1 (.seq (.tree (.seq ⟨some 10, none, (.ofA (.mv (.tmp 8)))⟩
  (.seq ⟨some 4, none, (.ofA (.mv (.tmp 10)))⟩
  .done)))
 (.seq (.tree (.seq ⟨some 11, none, (.ofA (.mv (.tmp 4)))⟩
  (.seq ⟨some 12, none, (.ofA (.mv (.tmp 0)))⟩
  (.seq ⟨some 13, none, (.ofA (.nilc (.tmp 12)))⟩
  (.seq ⟨some 14, none, (.ofA (.faddr 10 (.tmp 13)))⟩
  (.seq ⟨some 15, none, (.ofA (.load none (.tmp 14)))⟩
  (.seq ⟨some 16, none, (.ofA (.bin .neq (.tmp 11) (.tmp 15)))⟩
  (.seq ⟨some 17, none, (.ofA (.mv (.tmp 16)))⟩
  (.seq ⟨some 18, some (17, true), (.ofA (.mv (.tmp 0)))⟩
  (.seq ⟨some 19, some (17, true), (.ofA (.mv (.tmp 4)))⟩
  (.seq ⟨some 20, some (17, true), (.call (.cst (.fn 69 [])) [(.tmp 18), (.tmp 19)])⟩
  (.seq ⟨some 21, none, (.ofA (.pick (.tmp 17) (.tmp 20) (.cst (.v (.bool false)))))⟩
  .done))))))))))))
 (.cond (.tmp 21)
 (.tree (.seq ⟨some 22, none, (.ofA (.mv (.tmp 3)))⟩
  (.seq ⟨some 23, none, (.ofA (.mv (.tmp 4)))⟩
  (.seq ⟨some 24, none, (.buildSl 1 1 [(.v (.int .i64 0))] [(0, 1, (.tmp 23))])⟩
  (.seq ⟨some 25, none, (.app 1 8 (.tmp 22) (.tmp 24))⟩
  (.seq ⟨some 3, none, (.ofA (.mv (.tmp 25)))⟩
  .done))))))
 .skip))))
 (.tree (.seq ⟨some 26, none, (.ofA (.bin .add (.tmp 8) (.cst (.v (.int .i64 1)))))⟩
  (.seq ⟨some 8, none, (.ofA (.mv (.tmp 26)))⟩
  .done)))))))))
 (.seq (.tree (.seq ⟨some 27, none, (.ofA (.mv (.tmp 3)))⟩
  (.seq ⟨some 2, none, (.ofA (.mv (.tmp 27)))⟩
  .done)))
 .ret))))
def r19 : List XR := [.tmp 2]
theorem fn19 : FnX Tryz.prog 19 EFF 28 x19 r19 := ⟨_, Tryz.func19, by kernel_rfl, by kernel_rfl, by kernel_rfl, by kernel_rfl⟩
-- (*almshouse/store.Store).Bad (1 parameters)
def x20 : XC := (.seq (.tree (.seq ⟨some 2, none, (.ofA (.mv (.cst (.v (.int .i64 0)))))⟩
  .done))
 (.seq (.tree (.seq ⟨some 3, none, (.ofA (.mv (.cst (.v (.int .i64 0)))))⟩
  .done))
 (.seq (.seq (.tree (.seq ⟨some 5, none, (.ofA (.mv (.tmp 0)))⟩
  (.seq ⟨some 6, none, (.call (.cst (.fn 23 [])) [(.tmp 5)])⟩
  (.seq ⟨some 7, none, (.ofA (.len (.tmp 6)))⟩
  (.seq ⟨some 8, none, (.ofA (.mv (.cst (.v (.int .i64 0)))))⟩
  .done)))))
 (.block 0 (.loop (.seq (.tree (.seq ⟨some 9, none, (.ofA (.bin .lss (.tmp 8) (.tmp 7)))⟩
  .done))
 (.seq (.cond (.tmp 9)
 .skip
 (.exit 0))
 (.seq (.block 1 (.seq (.tree (.seq ⟨some 10, none, (.ofA (.mv (.tmp 8)))⟩
  (.seq ⟨some 4, none, (.ofA (.mv (.tmp 10)))⟩
  .done)))
 (.seq (.tree (.seq ⟨some 11, none, (.ofA (.mv (.tmp 0)))⟩
  (.seq ⟨some 12, none, (.ofA (.mv (.tmp 4)))⟩
  (.seq ⟨some 13, none, (.call (.cst (.fn 60 [])) [(.tmp 11), (.tmp 12)])⟩
  .done))))
 (.cond (.tmp 13)
 (.tree (.seq ⟨some 14, none, (.ofA (.mv (.tmp 3)))⟩
  (.seq ⟨some 15, none, (.ofA (.bin .add (.tmp 14) (.cst (.v (.int .i64 1)))))⟩
  (.seq ⟨some 3, none, (.ofA (.mv (.tmp 15)))⟩
  .done))))
 .skip))))
 (.tree (.seq ⟨some 16, none, (.ofA (.bin .add (.tmp 8) (.cst (.v (.int .i64 1)))))⟩
  (.seq ⟨some 8, none, (.ofA (.mv (.tmp 16)))⟩
  .done)))))))))
 (.seq (.tree (.seq ⟨some 17, none, (.ofA (.mv (.tmp 3)))⟩
  (.seq ⟨some 2, none, (.ofA (.mv (.tmp 17)))⟩
  .done)))
 .ret))))
def r20 : List XR := [.tmp 2]
theorem fn20 : FnX Tryz.prog 20 EFF 18 x20 r20 := ⟨_, Tryz.func20, by kernel_rfl, by kernel_rfl, by kernel_rfl, by kernel_rfl⟩
-- (*almshouse/store.Store).Waiting (1 parameters)
def x21 : XC := (.seq (.tree (.seq ⟨some 2, none, (.ofA (.mv (.cst (.v (.int .i64 0)))))⟩
  .done))
 (.seq (.seq (.tree (.seq ⟨some 3, none, (.ofA (.mv (.tmp 0)))⟩
  (.seq ⟨some 4, none, (.ofA (.eqn false 1 (.tmp 3) (.cst (.v (.pointer none)))))⟩
  .done)))
 (.cond (.tmp 4)
 (.seq (.tree (.seq ⟨some 2, none, (.ofA (.mv (.cst (.v (.int .i64 0)))))⟩
  .done))
 .ret)
 .skip))
 (.seq (.tree (.seq ⟨some 5, none, (.ofA (.mv (.tmp 0)))⟩
  (.seq ⟨some 6, none, (.ofA (.nilc (.tmp 5)))⟩
  (.seq ⟨some 7, none, (.ofA (.faddr 8 (.tmp 6)))⟩
  (.seq ⟨some 8, none, (.ofA (.load none (.tmp 7)))⟩
  (.seq ⟨some 9, none, (.call (.cst (.fn 58 [])) [(.tmp 8)])⟩
  (.seq ⟨some 2, none, (.ofA (.mv (.tmp 9)))⟩
  .done)))))))
 .ret)))
def r21 : List XR := [.tmp 2]
theorem fn21 : FnX Tryz.prog 21 EFF 10 x21 r21 := ⟨_, Tryz.func21, by kernel_rfl, by kernel_rfl, by kernel_rfl, by kernel_rfl⟩
-- (*almshouse/store.Store).Blocks (1 parameters)
def x23 : XC := (.seq (.tree (.seq ⟨some 2, none, (.ofA (.mv (.cst (.v (.slice none 0 0)))))⟩
  .done))
 (.seq (.seq (.tree (.seq ⟨some 3, none, (.ofA (.mv (.tmp 0)))⟩
  (.seq ⟨some 4, none, (.ofA (.eqn false 1 (.tmp 3) (.cst (.v (.pointer none)))))⟩
  .done)))
 (.cond (.tmp 4)
 (.seq (.tree (.seq ⟨some 2, none, (.ofA (.mv (.cst (.v (.slice none 0 0)))))⟩
  .done))
 .ret)
 .skip))
 (.seq (.tree (.seq ⟨some 5, none, (.ofA (.mv (.tmp 0)))⟩
  (.seq ⟨some 6, none, (.ofA (.nilc (.tmp 5)))⟩
  (.seq ⟨some 7, none, (.ofA (.faddr 2 (.tmp 6)))⟩
  (.seq ⟨some 8, none, (.ofA (.faddr 4 (.tmp 7)))⟩
  (.seq ⟨some 9, none, (.ofA (.load none (.tmp 8)))⟩
  (.seq ⟨some 10, none, (.call (.cst (.fn 55 [])) [(.tmp 9)])⟩
  (.seq ⟨some 2, none, (.ofA (.mv (.tmp 10)))⟩
  .done))))))))
 .ret)))
def r23 : List XR := [.tmp 2]
theorem fn23 : FnX Tryz.prog 23 EFF 11 x23 r23 := ⟨_, Tryz.func23, by kernel_rfl, by kernel_rfl, by kernel_rfl, by kernel_rfl⟩
-- almshouse/almshouselaw21.fixed (0 parameters)
def x24 : XC := (.seq (.tree (.seq ⟨some 0, none, (.ofA (.mv (.cst (.v (.bool false)))))⟩
  .done))
 (.seq (.tree (.seq ⟨some 11, none, (.call (.cst (.fn 71 [])) [(.cst (.v (.int .i64 8))), (.cst (.v (.int .i64 4)))])⟩
  (.seq ⟨some 12, none, (.call (.cst (.fn 70 [])) [(.tmp 11)])⟩
  (.seq ⟨some 10, none, (.ofA (.mv (.tmp 12)))⟩
  (.seq ⟨some 13, none, (.ofA (.extract 0 (.tmp 10)))⟩
  (.seq ⟨some 14, none, (.ofA (.extract 1 (.tmp 10)))⟩
  (.seq ⟨some 1, none, (.ofA (.mv (.tmp 13)))⟩
  (.seq ⟨some 2, none, (.ofA (.mv (.tmp 14)))⟩
  .done))))))))
 (.seq (.tree (.seq ⟨some 15, none, (.ofA (.mv (.tmp 1)))⟩
  (.seq ⟨some 16, none, (.call (.cst (.fn 29 [])) [(.tmp 15), (.cst (.v (.int .i64 1))), (.cst (.v (.int .i64 5))), (.cst (.v (.int .i64 1)))])⟩
  (.seq ⟨some 3, none, (.ofA (.mv (.tmp 16)))⟩
  .done))))
 (.seq (.tree (.seq ⟨some 17, none, (.ofA (.mv (.tmp 1)))⟩
  (.seq ⟨some 18, none, (.build [(.v (.int .i64 0)), (.v (.int .i64 0)), (.v (.string ⟨#[]⟩))] [(0, 1, (.cst (.v (.int .i64 2)))), (1, 1, (.cst (.v (.int .i64 4)))), (2, 1, (.cst (.v (.string ⟨#[120]⟩))))])⟩
  (.seq ⟨some 19, none, (.call (.cst (.fn 33 [])) [(.tmp 17), (.cst (.v (.int .i64 1))), (.tmp 18)])⟩
  (.seq ⟨some 4, none, (.ofA (.mv (.tmp 19)))⟩
  .done)))))
 (.seq (.seq (.tree (.seq ⟨some 20, none, (.ofA (.mv (.cst (.v (.int .i64 0)))))⟩
  .done))
 (.block 0 (.loop (.seq (.tree (.seq ⟨some 21, none, (.ofA (.bin .lss (.tmp 20) (.cst (.v (.int .i64 4)))))⟩
  .done))
 (.seq (.cond (.tmp 21)
 .skip
 (.exit 0))
 (.seq (.block 1 (.tree (.seq ⟨some 22, none, (.ofA (.mv (.tmp 1)))⟩
  (.seq ⟨some 23, none, (.call (.cst (.fn 35 [])) [(.tmp 22)])⟩
  .done))))
 (.tree (.seq ⟨some 24, none, (.ofA (.bin .add (.tmp 20) (.cst (.v (.int .i64 1)))))⟩
  (.seq ⟨some 20, none, (.ofA (.mv (.tmp 24)))⟩
  .done)))))))))
 (.seq (.tree (.seq ⟨some 25, none, (.ofA (.mv (.tmp 1)))⟩
  (.seq ⟨some 26, none, (.call (.cst (.fn 39 [])) [(.tmp 25), (.cst (.v (.int .i64 1)))])⟩
  (.seq ⟨some 5, none, (.ofA (.mv (.tmp 26)))⟩
  .done))))
 (.seq (.tree (.seq ⟨some 28, none, (.ofA (.mv (.tmp 1)))⟩
  (.seq ⟨some 29, none, (.call (.cst (.fn 28 [])) [(.tmp 28), (.cst (.v (.int .i64 1))), (.cst (.v (.int .i64 4)))])⟩
  (.seq ⟨some 27, none, (.ofA (.mv (.tmp 29)))⟩
  (.seq ⟨some 30, none, (.ofA (.extract 0 (.tmp 27)))⟩
  (.seq ⟨some 31, none, (.ofA (.extract 1 (.tmp 27)))⟩
  (.seq ⟨some 6, none, (.ofA (.mv (.tmp 30)))⟩
  (.seq ⟨some 7, none, (.ofA (.mv (.tmp 31)))⟩
  .done))))))))
 (.seq (.tree (.seq ⟨some 33, none, (.ofA (.mv (.tmp 1)))⟩
  (.seq ⟨some 34, none, (.call (.cst (.fn 27 [])) [(.tmp 33), (.cst (.v (.int .i64 1)))])⟩
  (.seq ⟨some 32, none, (.ofA (.mv (.tmp 34)))⟩
  (.seq ⟨some 35, none, (.ofA (.extract 0 (.tmp 32)))⟩
  (.seq ⟨some 36, none, (.ofA (.extract 1 (.tmp 32)))⟩
  (.seq ⟨some 8, none, (.alloc [(.v (.int .i64 0)), (.v (.int .i64 0)), (.v (.int .i64 0)), (.v (.int .i64 0)), (.v (.int .i64 0)), (.v (.int .i64 0)), (.v (.bool false)), (.v (.int .i64 0)), (.v (.int .i64 0))])⟩
  (.seq ⟨none, none, (.store 9 (.tmp 8) (.tmp 35))⟩
  (.seq ⟨some 9, none, (.ofA (.mv (.tmp 36)))⟩
  .done)))))))))
 (.seq (.tree (.seq ⟨some 37, none, (.ofA (.mv (.tmp 2)))⟩
  (.seq ⟨some 38, none, (.ofA (.bin .eql (.tmp 37) (.cst (.v (.int .i64 0)))))⟩
  (.seq ⟨some 39, none, (.ofA (.mv (.tmp 38)))⟩
  (.seq ⟨some 40, some (39, true), (.ofA (.mv (.tmp 3)))⟩
  (.seq ⟨some 41, some (39, true), (.ofA (.bin .eql (.tmp 40) (.cst (.v (.int .i64 0)))))⟩
  (.seq ⟨some 42, none, (.ofA (.pick (.tmp 39) (.tmp 41) (.cst (.v (.bool false)))))⟩
  (.seq ⟨some 43, none, (.ofA (.mv (.tmp 42)))⟩
  (.seq ⟨some 44, some (43, true), (.ofA (.mv (.tmp 4)))⟩
  (.seq ⟨some 45, some (43, true), (.ofA (.bin .eql (.tmp 44) (.cst (.v (.int .i64 0)))))⟩
  (.seq ⟨some 46, none, (.ofA (.pick (.tmp 43) (.tmp 45) (.cst (.v (.bool false)))))⟩
  (.seq ⟨some 47, none, (.ofA (.mv (.tmp 46)))⟩
  (.seq ⟨some 48, some (47, true), (.ofA (.mv (.tmp 5)))⟩
  (.seq ⟨some 49, some (47, true), (.ofA (.len (.tmp 48)))⟩
  (.seq ⟨some 50, some (47, true), (.ofA (.bin .eql (.tmp 49) (.cst (.v (.int .i64 1)))))⟩
  (.seq ⟨some 51, none, (.ofA (.pick (.tmp 47) (.tmp 50) (.cst (.v (.bool false)))))⟩
  (.seq ⟨some 52, none, (.ofA (.mv (.tmp 51)))⟩
  (.seq ⟨some 53, some (52, true), (.ofA (.mv (.tmp 5)))⟩
  (.seq ⟨some 54, some (52, true), (.ofA (.isl 3 (.tmp 53) (.cst (.v (.int .i64 0)))))⟩
  (.seq ⟨some 55, some (52, true), (.ofA (.load (some 3) (.tmp 54)))⟩
  (.seq ⟨some 56, some (52, true), (.build [(.v (.int .i64 0)), (.v (.int .i64 0)), (.v (.string ⟨#[]⟩))] [(0, 1, (.cst (.v (.int .i64 1))))])⟩
  (.seq ⟨some 57, some (52, true), (.ofA (.eqs false [.int, .int, .str] (.tmp 55) (.tmp 56)))⟩
  (.seq ⟨some 58, none, (.ofA (.pick (.tmp 52) (.tmp 57) (.cst (.v (.bool false)))))⟩
  (.seq ⟨some 59, none, (.ofA (.mv (.tmp 58)))⟩
  (.seq ⟨some 60, some (59, true), (.ofA (.mv (.tmp 6)))⟩
  (.seq ⟨some 61, some (59, true), (.ofA (.bin .eql (.tmp 60) (.cst (.v (.string ⟨#[120]⟩)))))⟩
  (.seq ⟨some 62, none, (.ofA (.pick (.tmp 59) (.tmp 61) (.cst (.v (.bool false)))))⟩
  (.seq ⟨some 63, none, (.ofA (.mv (.tmp 62)))⟩
  (.seq ⟨some 64, some (63, true), (.ofA (.mv (.tmp 7)))⟩
  (.seq ⟨some 65, some (63, true), (.ofA (.bin .eql (.tmp 64) (.cst (.v (.int .i64 0)))))⟩
  (.seq ⟨some 66, none, (.ofA (.pick (.tmp 63) (.tmp 65) (.cst (.v (.bool false)))))⟩
  (.seq ⟨some 67, none, (.ofA (.mv (.tmp 66)))⟩
  (.seq ⟨some 68, some (67, true), (.ofA (.mv (.tmp 9)))⟩
  (.seq ⟨some 69, some (67, true), (.ofA (.bin .eql (.tmp 68) (.cst (.v (.int .i64 0)))))⟩
  (.seq ⟨some 70, none, (.ofA (.pick (.tmp 67) (.tmp 69) (.cst (.v (.bool false)))))⟩
  (.seq ⟨some 71, none, (.ofA (.mv (.tmp 70)))⟩
  (.seq ⟨some 72, some (71, true), (.ofA (.faddr 2 (.tmp 8)))⟩
  (.seq ⟨some 73, some (71, true), (.ofA (.load none (.tmp 72)))⟩
  (.seq ⟨some 74, some (71, true), (.ofA (.bin .eql (.tmp 73) (.cst (.v (.int .i64 4)))))⟩
  (.seq ⟨some 75, none, (.ofA (.pick (.tmp 71) (.tmp 74) (.cst (.v (.bool false)))))⟩
  (.seq ⟨some 76, none, (.ofA (.mv (.tmp 75)))⟩
  (.seq ⟨some 77, some (76, true), (.ofA (.faddr 8 (.tmp 8)))⟩
  (.seq ⟨some 78, some (76, true), (.ofA (.load none (.tmp 77)))⟩
  (.seq ⟨some 79, some (76, true), (.ofA (.bin .eql (.tmp 78) (.cst (.v (.int .i64 1)))))⟩
  (.seq ⟨some 80, none, (.ofA (.pick (.tmp 76) (.tmp 79) (.cst (.v (.bool false)))))⟩
  (.seq ⟨some 81, none, (.ofA (.mv (.tmp 80)))⟩
  (.seq ⟨some 82, some (81, true), (.ofA (.mv (.tmp 1)))⟩
  (.seq ⟨some 83, some (81, true), (.call (.cst (.fn 29 [])) [(.tmp 82), (.cst (.v (.int .i64 1))), (.cst (.v (.int .i64 5))), (.cst (.v (.int .i64 1)))])⟩
  (.seq ⟨some 84, some (81, true), (.ofA (.bin .eql (.tmp 83) (.cst (.v (.int .i64 7)))))⟩
  (.seq ⟨some 85, none, (.ofA (.pick (.tmp 81) (.tmp 84) (.cst (.v (.bool false)))))⟩
  (.seq ⟨some 86, none, (.ofA (.mv (.tmp 85)))⟩
  (.seq ⟨some 87, some (86, true), (.ofA (.mv (.tmp 1)))⟩
  (.seq ⟨some 88, some (86, true), (.call (.cst (.fn 37 [])) [(.tmp 87)])⟩
  (.seq ⟨some 89, some (86, true), (.ofA (.bin .eql (.tmp 88) (.cst (.v (.int .i64 4)))))⟩
  (.seq ⟨some 90, none, (.ofA (.pick (.tmp 86) (.tmp 89) (.cst (.v (.bool false)))))⟩
  (.seq ⟨some 91, none, (.ofA (.mv (.tmp 90)))⟩
  (.seq ⟨some 92, some (91, true), (.ofA (.mv (.tmp 1)))⟩
  (.seq ⟨some 93, some (91, true), (.call (.cst (.fn 36 [])) [(.tmp 92)])⟩
  (.seq ⟨some 94, none, (.ofA (.pick (.tmp 91) (.tmp 93) (.cst (.v (.bool false)))))⟩
  (.seq ⟨some 0, none, (.ofA (.mv (.tmp 94)))⟩
  .done))))))))))))))))))))))))))))))))))))))))))))))))))))))))))))
 .ret)))))))))
def r24 : List XR := [.tmp 0]
theorem fn24 : FnX Tryz.prog 24 EFF 95 x24 r24 := ⟨_, Tryz.func24, by kernel_rfl, by kernel_rfl, by kernel_rfl, by kernel_rfl⟩
-- (*almshouse/house.House).Cut (1 parameters)
def x25 : XC := (.seq (.tree (.seq ⟨some 2, none, (.ofA (.mv (.tmp 0)))⟩
  (.seq ⟨some 3, none, (.ofA (.eqn true 1 (.tmp 2) (.cst (.v (.pointer none)))))⟩
  .done)))
 (.cond (.tmp 3)
 (.seq (.tree (.seq ⟨some 4, none, (.ofA (.mv (.tmp 0)))⟩
  (.seq ⟨some 5, none, (.ofA (.nilc (.tmp 4)))⟩
  (.seq ⟨some 6, none, (.ofA (.faddr 1 (.tmp 5)))⟩
  (.seq ⟨some 7, none, (.ofA (.load none (.tmp 6)))⟩
  (.seq ⟨some 8, none, (.call (.cst (.fn 72 [])) [(.tmp 7)])⟩
  .done))))))
 (.tree (.seq ⟨some 9, none, (.ofA (.mv (.tmp 0)))⟩
  (.seq ⟨some 10, none, (.call (.cst (.fn 73 [])) [(.tmp 9)])⟩
  .done))))
 .skip))
def r25 : List XR := []
theorem fn25 : FnX Tryz.prog 25 EFF 11 x25 r25 := ⟨_, Tryz.func25, by kernel_rfl, by kernel_rfl, by kernel_rfl, by kernel_rfl⟩
-- (*almshouse/house.House).Budget (2 parameters)
def x26 : XC := (.seq (.tree (.seq ⟨some 4, none, (.ofA (.mv (.tmp 0)))⟩
  (.seq ⟨some 5, none, (.call (.cst (.fn 36 [])) [(.tmp 4)])⟩
  .done)))
 (.cond (.tmp 5)
 (.tree (.seq ⟨some 6, none, (.ofA (.mv (.tmp 0)))⟩
  (.seq ⟨some 7, none, (.ofA (.nilc (.tmp 6)))⟩
  (.seq ⟨some 8, none, (.ofA (.faddr 1 (.tmp 7)))⟩
  (.seq ⟨some 9, none, (.ofA (.load none (.tmp 8)))⟩
  (.seq ⟨some 10, none, (.ofA (.mv (.tmp 1)))⟩
  (.seq ⟨some 11, none, (.call (.cst (.fn 74 [])) [(.tmp 9), (.tmp 10)])⟩
  .done)))))))
 .skip))
def r26 : List XR := []
theorem fn26 : FnX Tryz.prog 26 EFF 12 x26 r26 := ⟨_, Tryz.func26, by kernel_rfl, by kernel_rfl, by kernel_rfl, by kernel_rfl⟩
-- (*almshouse/house.House).Stat (2 parameters)
def x27 : XC := (.seq (.tree (.seq ⟨some 4, none, (.alloc [(.v (.int .i64 0)), (.v (.int .i64 0)), (.v (.int .i64 0)), (.v (.int .i64 0)), (.v (.int .i64 0)), (.v (.int .i64 0)), (.v (.bool false)), (.v (.int .i64 0)), (.v (.int .i64 0))])⟩
  (.seq ⟨some 5, none, (.ofA (.mv (.cst (.v (.int .i64 0)))))⟩
  .done)))
 (.seq (.seq (.tree (.seq ⟨some 9, none, (.ofA (.mv (.tmp 0)))⟩
  (.seq ⟨some 10, none, (.ofA (.mv (.tmp 1)))⟩
  (.seq ⟨some 11, none, (.call (.cst (.fn 75 [])) [(.tmp 9), (.tmp 10)])⟩
  (.seq ⟨some 6, none, (.ofA (.mv (.tmp 11)))⟩
  .done)))))
 (.seq (.tree (.seq ⟨some 12, none, (.ofA (.mv (.tmp 6)))⟩
  (.seq ⟨some 13, none, (.ofA (.bin .neq (.tmp 12) (.cst (.v (.int .i64 0)))))⟩
  .done)))
 (.cond (.tmp 13)
 (.seq (.tree (.seq ⟨some 14, none, (.build [(.v (.int .i64 0)), (.v (.int .i64 0)), (.v (.int .i64 0)), (.v (.int .i64 0)), (.v (.int .i64 0)), (.v (.int .i64 0)), (.v (.bool false)), (.v (.int .i64 0)), (.v (.int .i64 0))] [])⟩
  (.seq ⟨some 15, none, (.ofA (.mv (.tmp 6)))⟩
  (.seq ⟨none, none, (.store 9 (.tmp 4) (.tmp 14))⟩
  (.seq ⟨some 5, none, (.ofA (.mv (.tmp 15)))⟩
  .done)))))
 .ret)
 .skip)))
 (.seq (.tree (.take ⟨some 16, none, (.ofA (.mv (.tmp 0)))⟩
  (.take ⟨some 17, none, (.ofA (.mv (.tmp 1)))⟩
  (.take ⟨some 18, none, (.ofA (.nilc (.tmp 16)))⟩
  (.take ⟨some 19, none, (.ofA (.faddr 3 (.tmp 18)))⟩
  (.take ⟨some 20, none, (.ofA (.faddr 2 (.tmp 19)))⟩
  (.take ⟨some 21, none, (.ofA (.iarr 4 5 (.tmp 20) (.tmp 17)))⟩
  (.take ⟨some 22, none, (.ofA (.load (some 5) (.tmp 21)))⟩
  (.take ⟨some 23, none, (.ofA (.mv (.tmp 0)))⟩
  (.take ⟨some 24, none, (.ofA (.mv (.tmp 1)))⟩
  (.take ⟨some 25, none, (.ofA (.nilc (.tmp 23)))⟩
  (.take ⟨some 26, none, (.ofA (.faddr 25 (.tmp 25)))⟩
  (.take ⟨some 27, none, (.ofA (.iarr 4 2 (.tmp 26) (.tmp 24)))⟩
  (.take ⟨some 28, none, (.ofA (.faddr 0 (.tmp 27)))⟩
  (.alt [true, true] [(⟨some 29, none, (.ofA (.load none (.tmp 28)))⟩,
 (.alt [true] [(⟨some 7, none, (.alloc [(.v (.bool false)), (.v (.int .i64 0)), (.v (.int .i64 0)), (.v (.int .i64 0)), (.v (.slice none 0 0))])⟩,
 (.alt [false] [(⟨none, none, (.store 5 (.tmp 7) (.tmp 22))⟩,
 (.take ⟨some 8, none, (.ofA (.mv (.tmp 29)))⟩
  .done))]))])), (⟨some 7, none, (.alloc [(.v (.bool false)), (.v (.int .i64 0)), (.v (.int .i64 0)), (.v (.int .i64 0)), (.v (.slice none 0 0))])⟩,
 (.alt [true, false] [(⟨some 29, none, (.ofA (.load none (.tmp 28)))⟩,
 (.alt [false] [(⟨none, none, (.store 5 (.tmp 7) (.tmp 22))⟩,
 (.take ⟨some 8, none, (.ofA (.mv (.tmp 29)))⟩
  .done))])), (⟨none, none, (.store 5 (.tmp 7) (.tmp 22))⟩,
 (.take ⟨some 29, none, (.ofA (.load none (.tmp 28)))⟩
  (.take ⟨some 8, none, (.ofA (.mv (.tmp 29)))⟩
  .done)))]))])))))))))))))))
 (.seq (.tree (.take ⟨some 30, none, (.ofA (.faddr 2 (.tmp 7)))⟩
  (.take ⟨some 31, none, (.ofA (.load none (.tmp 30)))⟩
  (.take ⟨some 32, none, (.ofA (.faddr 3 (.tmp 7)))⟩
  (.take ⟨some 33, none, (.ofA (.load none (.tmp 32)))⟩
  (.take ⟨some 34, none, (.ofA (.faddr 4 (.tmp 7)))⟩
  (.take ⟨some 35, none, (.ofA (.load none (.tmp 34)))⟩
  (.take ⟨some 36, none, (.ofA (.len (.tmp 35)))⟩
  (.take ⟨some 37, none, (.ofA (.mv (.tmp 8)))⟩
  (.take ⟨some 39, none, (.ofA (.mv (.tmp 0)))⟩
  (.take ⟨some 40, none, (.ofA (.nilc (.tmp 39)))⟩
  (.take ⟨some 41, none, (.ofA (.faddr 2 (.tmp 40)))⟩
  (.take ⟨some 42, none, (.ofA (.load none (.tmp 41)))⟩
  (.take ⟨some 43, none, (.ofA (.mv (.tmp 1)))⟩
  (.take ⟨some 45, none, (.ofA (.mv (.tmp 0)))⟩
  (.take ⟨some 46, none, (.ofA (.nilc (.tmp 45)))⟩
  (.take ⟨some 47, none, (.ofA (.faddr 2 (.tmp 46)))⟩
  (.take ⟨some 48, none, (.ofA (.load none (.tmp 47)))⟩
  (.take ⟨some 49, none, (.ofA (.mv (.tmp 1)))⟩
  (.take ⟨some 51, none, (.ofA (.mv (.tmp 8)))⟩
  (.take ⟨some 53, none, (.ofA (.mv (.tmp 8)))⟩
  (.take ⟨some 56, none, (.ofA (.mv (.tmp 8)))⟩
  (.take ⟨some 58, none, (.ofA (.mv (.tmp 0)))⟩
  (.take ⟨some 59, none, (.ofA (.mv (.tmp 1)))⟩
  (.take ⟨some 60, none, (.ofA (.nilc (.tmp 58)))⟩
  (.take ⟨some 61, none, (.ofA (.faddr 25 (.tmp 60)))⟩
  (.take ⟨some 62, none, (.ofA (.iarr 4 2 (.tmp 61) (.tmp 59)))⟩
  (.take ⟨some 63, none, (.ofA (.faddr 1 (.tmp 62)))⟩
  (.take ⟨some 64, none, (.ofA (.load none (.tmp 63)))⟩
  (.alt [true] [(⟨some 38, none, (.call (.cst (.fn 20 [])) [(.tmp 37)])⟩,
 (.alt [true] [(⟨some 44, none, (.call (.cst (.fn 76 [])) [(.tmp 42), (.tmp 43)])⟩,
 (.alt [true] [(⟨some 50, none, (.call (.cst (.fn 77 [])) [(.tmp 48), (.tmp 49)])⟩,
 (.alt [true] [(⟨some 52, none, (.call (.cst (.fn 18 [])) [(.tmp 51)])⟩,
 (.alt [true] [(⟨some 54, none, (.call (.cst (.fn 19 [])) [(.tmp 53)])⟩,
 (.take ⟨some 55, none, (.ofA (.len (.tmp 54)))⟩
  (.alt [true] [(⟨some 57, none, (.call (.cst (.fn 21 [])) [(.tmp 56)])⟩,
 (.alt [true] [(⟨some 65, none, (.call (.cst (.fn 78 [])) [(.tmp 64)])⟩,
 (.take ⟨some 66, none, (.ofA (.bin .add (.tmp 57) (.tmp 65)))⟩
  (.alt [true] [(⟨some 67, none, (.build [(.v (.int .i64 0)), (.v (.int .i64 0)), (.v (.int .i64 0)), (.v (.int .i64 0)), (.v (.int .i64 0)), (.v (.int .i64 0)), (.v (.bool false)), (.v (.int .i64 0)), (.v (.int .i64 0))] [(0, 1, (.tmp 31)), (1, 1, (.tmp 33)), (2, 1, (.tmp 36)), (3, 1, (.tmp 38)), (4, 1, (.tmp 44)), (5, 1, (.tmp 50)), (6, 1, (.tmp 52)), (7, 1, (.tmp 55)), (8, 1, (.tmp 66))])⟩,
 (.alt [false] [(⟨none, none, (.store 9 (.tmp 4) (.tmp 67))⟩,
 (.take ⟨some 5, none, (.ofA (.mv (.cst (.v (.int .i64 0)))))⟩
  .done))]))])))]))])))]))]))]))]))]))))))))))))))))))))))))))))))
 .ret))))
def r27 : List XR := [.cell 4 (some 9), .tmp 5]
theorem fn27 : FnX Tryz.prog 27 EFF 68 x27 r27 := ⟨_, Tryz.func27, by kernel_rfl, by kernel_rfl, by kernel_rfl, by kernel_rfl⟩
-- (*almshouse/house.House).Peek (3 parameters)
def x28 : XC := (.seq (.tree (.seq ⟨some 6, none, (.ofA (.mv (.cst (.v (.string ⟨#[]⟩)))))⟩
  (.seq ⟨some 7, none, (.ofA (.mv (.cst (.v (.int .i64 0)))))⟩
  .done)))
 (.seq (.seq (.tree (.seq ⟨some 9, none, (.ofA (.mv (.tmp 0)))⟩
  (.seq ⟨some 10, none, (.ofA (.mv (.tmp 1)))⟩
  (.seq ⟨some 11, none, (.call (.cst (.fn 75 [])) [(.tmp 9), (.tmp 10)])⟩
  (.seq ⟨some 8, none, (.ofA (.mv (.tmp 11)))⟩
  .done)))))
 (.seq (.tree (.seq ⟨some 12, none, (.ofA (.mv (.tmp 8)))⟩
  (.seq ⟨some 13, none, (.ofA (.bin .neq (.tmp 12) (.cst (.v (.int .i64 0)))))⟩
  .done)))
 (.cond (.tmp 13)
 (.seq (.tree (.seq ⟨some 14, none, (.ofA (.mv (.tmp 8)))⟩
  (.seq ⟨some 6, none, (.ofA (.mv (.cst (.v (.string ⟨#[]⟩)))))⟩
  (.seq ⟨some 7, none, (.ofA (.mv (.tmp 14)))⟩
  .done))))
 .ret)
 .skip)))
 (.seq (.tree (.seq ⟨some 15, none, (.ofA (.mv (.tmp 0)))⟩
  (.seq ⟨some 16, none, (.ofA (.mv (.tmp 1)))⟩
  (.seq ⟨some 17, none, (.ofA (.nilc (.tmp 15)))⟩
  (.seq ⟨some 18, none, (.ofA (.faddr 25 (.tmp 17)))⟩
  (.seq ⟨some 19, none, (.ofA (.iarr 4 2 (.tmp 18) (.tmp 16)))⟩
  (.seq ⟨some 20, none, (.ofA (.faddr 0 (.tmp 19)))⟩
  (.seq ⟨some 21, none, (.ofA (.load none (.tmp 20)))⟩
  (.seq ⟨some 22, none, (.ofA (.mv (.tmp 2)))⟩
  (.seq ⟨some 23, none, (.call (.cst (.fn 7 [])) [(.tmp 21), (.tmp 22)])⟩
  (.seq ⟨some 24, none, (.ofA (.extract 0 (.tmp 23)))⟩
  (.seq ⟨some 25, none, (.ofA (.extract 1 (.tmp 23)))⟩
  (.seq ⟨some 6, none, (.ofA (.mv (.tmp 24)))⟩
  (.seq ⟨some 7, none, (.ofA (.mv (.tmp 25)))⟩
  .done))))))))))))))
 .ret)))
def r28 : List XR := [.tmp 6, .tmp 7]
theorem fn28 : FnX Tryz.prog 28 EFF 26 x28 r28 := ⟨_, Tryz.func28, by kernel_rfl, by kernel_rfl, by kernel_rfl, by kernel_rfl⟩
-- (*almshouse/house.House).Create (4 parameters)
def x29 : XC := (.seq (.tree (.seq ⟨some 4, none, (.box (.tmp 0))⟩
  (.seq ⟨some 5, none, (.box (.tmp 1))⟩
  (.seq ⟨some 8, none, (.ofA (.mv (.cst (.v (.int .i64 0)))))⟩
  .done))))
 (.seq (.seq (.tree (.seq ⟨some 16, none, (.ofA (.load none (.tmp 4)))⟩
  (.seq ⟨some 17, none, (.call (.cst (.fn 36 [])) [(.tmp 16)])⟩
  (.seq ⟨some 18, none, (.ofA (.un .not (.tmp 17)))⟩
  .done))))
 (.cond (.tmp 18)
 (.seq (.tree (.seq ⟨some 8, none, (.ofA (.mv (.cst (.v (.int .i64 12)))))⟩
  .done))
 .ret)
 .skip))
 (.seq (.seq (.tree (.take ⟨some 20, none, (.ofA (.load none (.tmp 4)))⟩
  (.take ⟨some 21, none, (.ofA (.nilc (.tmp 20)))⟩
  (.take ⟨some 22, none, (.ofA (.faddr 3 (.tmp 21)))⟩
  (.take ⟨some 23, none, (.ofA (.load (some 22) (.tmp 22)))⟩
  (.take ⟨some 24, none, (.ofA (.load none (.tmp 5)))⟩
  (.take ⟨some 25, none, (.ofA (.mv (.tmp 2)))⟩
  (.take ⟨some 26, none, (.ofA (.mv (.tmp 3)))⟩
  (.alt [true, true] [(⟨some 27, none, (.call (.cst (.fn 79 [])) [(.tmp 23), (.tmp 24), (.tmp 25), (.tmp 26), (.cst (.v (.slice none 0 0)))])⟩,
 (.take ⟨some 19, none, (.ofA (.mv (.tmp 27)))⟩
  (.take ⟨some 28, none, (.ofA (.extract 0 (.tmp 19)))⟩
  (.take ⟨some 29, none, (.ofA (.extract 1 (.tmp 19)))⟩
  (.alt [true] [(⟨some 9, none, (.alloc [(.v (.int .i64 0)), (.v (.int .i64 0)), (.v (.bool false)), (.v (.int .i64 0)), (.v (.int .i64 0)), (.v (.int .i64 0)), (.v (.slice none 0 0)), (.v (.bool false)), (.v (.int .i64 0)), (.v (.int .i64 0)), (.v (.int .i64 0)), (.v (.slice none 0 0)), (.v (.bool false)), (.v (.int .i64 0)), (.v (.int .i64 0)), (.v (.int .i64 0)), (.v (.slice none 0 0)), (.v (.bool false)), (.v (.int .i64 0)), (.v (.int .i64 0)), (.v (.int .i64 0)), (.v (.slice none 0 0))])⟩,
 (.alt [false] [(⟨none, none, (.store 22 (.tmp 9) (.tmp 28))⟩,
 (.take ⟨some 10, none, (.ofA (.mv (.tmp 29)))⟩
  .done))]))]))))), (⟨some 9, none, (.alloc [(.v (.int .i64 0)), (.v (.int .i64 0)), (.v (.bool false)), (.v (.int .i64 0)), (.v (.int .i64 0)), (.v (.int .i64 0)), (.v (.slice none 0 0)), (.v (.bool false)), (.v (.int .i64 0)), (.v (.int .i64 0)), (.v (.int .i64 0)), (.v (.slice none 0 0)), (.v (.bool false)), (.v (.int .i64 0)), (.v (.int .i64 0)), (.v (.int .i64 0)), (.v (.slice none 0 0)), (.v (.bool false)), (.v (.int .i64 0)), (.v (.int .i64 0)), (.v (.int .i64 0)), (.v (.slice none 0 0))])⟩,
 (.alt [true] [(⟨some 27, none, (.call (.cst (.fn 79 [])) [(.tmp 23), (.tmp 24), (.tmp 25), (.tmp 26), (.cst (.v (.slice none 0 0)))])⟩,
 (.take ⟨some 19, none, (.ofA (.mv (.tmp 27)))⟩
  (.take ⟨some 28, none, (.ofA (.extract 0 (.tmp 19)))⟩
  (.take ⟨some 29, none, (.ofA (.extract 1 (.tmp 19)))⟩
  (.alt [false] [(⟨none, none, (.store 22 (.tmp 9) (.tmp 28))⟩,
 (.take ⟨some 10, none, (.ofA (.mv (.tmp 29)))⟩
  .done))])))))]))])))))))))
 (.seq (.tree (.seq ⟨some 30, none, (.ofA (.mv (.tmp 10)))⟩
  (.seq ⟨some 31, none, (.ofA (.bin .neq (.tmp 30) (.cst (.v (.int .i64 0)))))⟩
  .done)))
 (.cond (.tmp 31)
 (.seq (.tree (.seq ⟨some 32, none, (.ofA (.mv (.tmp 10)))⟩
  (.seq ⟨some 8, none, (.ofA (.mv (.tmp 32)))⟩
  .done)))
 .ret)
 .skip)))
 (.seq (.tree (.take ⟨some 33, none, (.ofA (.load none (.tmp 4)))⟩
  (.take ⟨some 35, none, (.ofA (.mv (.tmp 2)))⟩
  (.take ⟨some 36, none, (.ofA (.mv (.tmp 3)))⟩
  (.take ⟨some 37, none, (.ofA (.load none (.tmp 4)))⟩
  (.act true [(⟨some 34, none, (.call (.cst (.fn 80 [])) [(.tmp 33)])⟩,
 (.act true [(⟨some 38, none, (.call (.cst (.fn 82 [])) [(.tmp 37)])⟩,
 (.act true [(⟨some 39, none, (.call (.cst (.fn 81 [])) [(.tmp 35), (.tmp 36), (.tmp 38)])⟩,
 (.take ⟨some 11, none, (.ofA (.mv (.tmp 34)))⟩
  (.take ⟨some 12, none, (.ofA (.mv (.tmp 39)))⟩
  .done)))]))]))]))))))
 (.seq (.seq (.tree (.seq ⟨some 40, none, (.ofA (.mv (.tmp 11)))⟩
  (.seq ⟨some 41, none, (.ofA (.len (.tmp 40)))⟩
  (.seq ⟨some 42, none, (.ofA (.mv (.tmp 12)))⟩
  (.seq ⟨some 43, none, (.ofA (.bin .lss (.tmp 41) (.tmp 42)))⟩
  .done)))))
 (.cond (.tmp 43)
 (.seq (.tree (.seq ⟨some 8, none, (.ofA (.mv (.cst (.v (.int .i64 8)))))⟩
  .done))
 .ret)
 .skip))
 (.seq (.tree (.seq ⟨some 44, none, (.ofA (.mv (.tmp 11)))⟩
  (.seq ⟨some 45, none, (.ofA (.mv (.tmp 12)))⟩
  (.seq ⟨some 46, none, (.ofA (.slc 1 (.tmp 44) none (some (.tmp 45))))⟩
  (.seq ⟨some 11, none, (.ofA (.mv (.tmp 46)))⟩
  .done)))))
 (.seq (.seq (.tree (.seq ⟨some 47, none, (.ofA (.load none (.tmp 4)))⟩
  (.seq ⟨some 48, none, (.ofA (.mv (.tmp 11)))⟩
  (.seq ⟨some 49, none, (.call (.cst (.fn 83 [])) [(.tmp 47), (.tmp 48)])⟩
  (.seq ⟨some 13, none, (.ofA (.mv (.tmp 49)))⟩
  .done)))))
 (.seq (.tree (.seq ⟨some 50, none, (.ofA (.mv (.tmp 13)))⟩
  (.seq ⟨some 51, none, (.ofA (.bin .neq (.tmp 50) (.cst (.v (.int .i64 0)))))⟩
  .done)))
 (.cond (.tmp 51)
 (.seq (.tree (.seq ⟨some 52, none, (.ofA (.load none (.tmp 4)))⟩
  (.seq ⟨some 53, none, (.call (.cst (.fn 73 [])) [(.tmp 52)])⟩
  .done)))
 (.seq (.tree (.seq ⟨some 54, none, (.ofA (.mv (.tmp 13)))⟩
  (.seq ⟨some 8, none, (.ofA (.mv (.tmp 54)))⟩
  .done)))
 .ret))
 .skip)))
 (.seq (.tree (.take ⟨some 56, none, (.ofA (.load none (.tmp 4)))⟩
  (.take ⟨some 57, none, (.ofA (.nilc (.tmp 56)))⟩
  (.take ⟨some 58, none, (.ofA (.faddr 3 (.tmp 57)))⟩
  (.take ⟨some 59, none, (.ofA (.load (some 22) (.tmp 58)))⟩
  (.take ⟨some 60, none, (.ofA (.load none (.tmp 5)))⟩
  (.take ⟨some 61, none, (.ofA (.mv (.tmp 2)))⟩
  (.take ⟨some 62, none, (.ofA (.mv (.tmp 3)))⟩
  (.take ⟨some 63, none, (.ofA (.mv (.tmp 11)))⟩
  (.alt [true, true] [(⟨some 64, none, (.call (.cst (.fn 79 [])) [(.tmp 59), (.tmp 60), (.tmp 61), (.tmp 62), (.tmp 63)])⟩,
 (.take ⟨some 55, none, (.ofA (.mv (.tmp 64)))⟩
  (.take ⟨some 65, none, (.ofA (.extract 0 (.tmp 55)))⟩
  (.take ⟨some 66, none, (.ofA (.extract 1 (.tmp 55)))⟩
  (.alt [true] [(⟨some 14, none, (.alloc [(.v (.int .i64 0)), (.v (.int .i64 0)), (.v (.bool false)), (.v (.int .i64 0)), (.v (.int .i64 0)), (.v (.int .i64 0)), (.v (.slice none 0 0)), (.v (.bool false)), (.v (.int .i64 0)), (.v (.int .i64 0)), (.v (.int .i64 0)), (.v (.slice none 0 0)), (.v (.bool false)), (.v (.int .i64 0)), (.v (.int .i64 0)), (.v (.int .i64 0)), (.v (.slice none 0 0)), (.v (.bool false)), (.v (.int .i64 0)), (.v (.int .i64 0)), (.v (.int .i64 0)), (.v (.slice none 0 0))])⟩,
 (.alt [false] [(⟨none, none, (.store 22 (.tmp 14) (.tmp 65))⟩,
 (.take ⟨some 15, none, (.ofA (.mv (.tmp 66)))⟩
  .done))]))]))))), (⟨some 14, none, (.alloc [(.v (.int .i64 0)), (.v (.int .i64 0)), (.v (.bool false)), (.v (.int .i64 0)), (.v (.int .i64 0)), (.v (.int .i64 0)), (.v (.slice none 0 0)), (.v (.bool false)), (.v (.int .i64 0)), (.v (.int .i64 0)), (.v (.int .i64 0)), (.v (.slice none 0 0)), (.v (.bool false)), (.v (.int .i64 0)), (.v (.int .i64 0)), (.v (.int .i64 0)), (.v (.slice none 0 0)), (.v (.bool false)), (.v (.int .i64 0)), (.v (.int .i64 0)), (.v (.int .i64 0)), (.v (.slice none 0 0))])⟩,
 (.alt [true] [(⟨some 64, none, (.call (.cst (.fn 79 [])) [(.tmp 59), (.tmp 60), (.tmp 61), (.tmp 62), (.tmp 63)])⟩,
 (.take ⟨some 55, none, (.ofA (.mv (.tmp 64)))⟩
  (.take ⟨some 65, none, (.ofA (.extract 0 (.tmp 55)))⟩
  (.take ⟨some 66, none, (.ofA (.extract 1 (.tmp 55)))⟩
  (.alt [false] [(⟨none, none, (.store 22 (.tmp 14) (.tmp 65))⟩,
 (.take ⟨some 15, none, (.ofA (.mv (.tmp 66)))⟩
  .done))])))))]))]))))))))))
 (.seq (.tree (.seq ⟨some 67, none, (.ofA (.load none (.tmp 4)))⟩
  (.seq ⟨some 68, none, (.ofA (.load (some 22) (.tmp 14)))⟩
  (.seq ⟨some 69, none, (.ofA (.mv (.tmp 15)))⟩
  (.seq ⟨some 70, none, (.ofA (.mkfn 85 [(.tmp 4), (.tmp 5), (.tmp 14)]))⟩
  (.seq ⟨some 71, none, (.call (.cst (.fn 84 [])) [(.tmp 67), (.tmp 68), (.tmp 69), (.tmp 70)])⟩
  (.seq ⟨some 8, none, (.ofA (.mv (.tmp 71)))⟩
  .done)))))))
 .ret)))))))))
def r29 : List XR := [.tmp 8]
theorem fn29 : FnX Tryz.prog 29 EFF 72 x29 r29 := ⟨_, Tryz.func29, by kernel_rfl, by kernel_rfl, by kernel_rfl, by kernel_rfl⟩
-- (*almshouse/house.House).Destroy (2 parameters)
def x30 : XC := (.seq (.tree (.seq ⟨some 2, none, (.box (.tmp 0))⟩
  (.seq ⟨some 3, none, (.box (.tmp 1))⟩
  (.seq ⟨some 4, none, (.ofA (.mv (.cst (.v (.int .i64 0)))))⟩
  .done))))
 (.seq (.seq (.tree (.seq ⟨some 7, none, (.ofA (.load none (.tmp 2)))⟩
  (.seq ⟨some 8, none, (.call (.cst (.fn 36 [])) [(.tmp 7)])⟩
  (.seq ⟨some 9, none, (.ofA (.un .not (.tmp 8)))⟩
  .done))))
 (.cond (.tmp 9)
 (.seq (.tree (.seq ⟨some 4, none, (.ofA (.mv (.cst (.v (.int .i64 12)))))⟩
  .done))
 .ret)
 .skip))
 (.seq (.tree (.take ⟨some 11, none, (.ofA (.load none (.tmp 2)))⟩
  (.take ⟨some 12, none, (.ofA (.nilc (.tmp 11)))⟩
  (.take ⟨some 13, none, (.ofA (.faddr 3 (.tmp 12)))⟩
  (.take ⟨some 14, none, (.ofA (.load (some 22) (.tmp 13)))⟩
  (.take ⟨some 15, none, (.ofA (.load none (.tmp 3)))⟩
  (.alt [true, true] [(⟨some 16, none, (.call (.cst (.fn 87 [])) [(.tmp 14), (.tmp 15)])⟩,
 (.take ⟨some 10, none, (.ofA (.mv (.tmp 16)))⟩
  (.take ⟨some 17, none, (.ofA (.extract 0 (.tmp 10)))⟩
  (.take ⟨some 18, none, (.ofA (.extract 1 (.tmp 10)))⟩
  (.alt [true] [(⟨some 5, none, (.alloc [(.v (.int .i64 0)), (.v (.int .i64 0)), (.v (.bool false)), (.v (.int .i64 0)), (.v (.int .i64 0)), (.v (.int .i64 0)), (.v (.slice none 0 0)), (.v (.bool false)), (.v (.int .i64 0)), (.v (.int .i64 0)), (.v (.int .i64 0)), (.v (.slice none 0 0)), (.v (.bool false)), (.v (.int .i64 0)), (.v (.int .i64 0)), (.v (.int .i64 0)), (.v (.slice none 0 0)), (.v (.bool false)), (.v (.int .i64 0)), (.v (.int .i64 0)), (.v (.int .i64 0)), (.v (.slice none 0 0))])⟩,
 (.alt [false] [(⟨none, none, (.store 22 (.tmp 5) (.tmp 17))⟩,
 (.take ⟨some 6, none, (.ofA (.mv (.tmp 18)))⟩
  .done))]))]))))), (⟨some 5, none, (.alloc [(.v (.int .i64 0)), (.v (.int .i64 0)), (.v (.bool false)), (.v (.int .i64 0)), (.v (.int .i64 0)), (.v (.int .i64 0)), (.v (.slice none 0 0)), (.v (.bool false)), (.v (.int .i64 0)), (.v (.int .i64 0)), (.v (.int .i64 0)), (.v (.slice none 0 0)), (.v (.bool false)), (.v (.int .i64 0)), (.v (.int .i64 0)), (.v (.int .i64 0)), (.v (.slice none 0 0)), (.v (.bool false)), (.v (.int .i64 0)), (.v (.int .i64 0)), (.v (.int .i64 0)), (.v (.slice none 0 0))])⟩,
 (.alt [true] [(⟨some 16, none, (.call (.cst (.fn 87 [])) [(.tmp 14), (.tmp 15)])⟩,
 (.take ⟨some 10, none, (.ofA (.mv (.tmp 16)))⟩
  (.take ⟨some 17, none, (.ofA (.extract 0 (.tmp 10)))⟩
  (.take ⟨some 18, none, (.ofA (.extract 1 (.tmp 10)))⟩
  (.alt [false] [(⟨none, none, (.store 22 (.tmp 5) (.tmp 17))⟩,
 (.take ⟨some 6, none, (.ofA (.mv (.tmp 18)))⟩
  .done))])))))]))])))))))
 (.seq (.seq (.tree (.seq ⟨some 19, none, (.ofA (.mv (.tmp 6)))⟩
  (.seq ⟨some 20, none, (.ofA (.bin .neq (.tmp 19) (.cst (.v (.int .i64 0)))))⟩
  .done)))
 (.cond (.tmp 20)
 (.seq (.tree (.seq ⟨some 21, none, (.ofA (.mv (.tmp 6)))⟩
  (.seq ⟨some 4, none, (.ofA (.mv (.tmp 21)))⟩
  .done)))
 .ret)
 .skip))
 (.seq (.tree (.seq ⟨some 22, none, (.ofA (.load none (.tmp 2)))⟩
  (.seq ⟨some 23, none, (.ofA (.load (some 22) (.tmp 5)))⟩
  (.seq ⟨some 24, none, (.ofA (.mv (.tmp 6)))⟩
  (.seq ⟨some 25, none, (.ofA (.mkfn 88 [(.tmp 2), (.tmp 3)]))⟩
  (.seq ⟨some 26, none, (.call (.cst (.fn 84 [])) [(.tmp 22), (.tmp 23), (.tmp 24), (.tmp 25)])⟩
  (.seq ⟨some 4, none, (.ofA (.mv (.tmp 26)))⟩
  .done)))))))
 .ret)))))
def r30 : List XR := [.tmp 4]
theorem fn30 : FnX Tryz.prog 30 EFF 27 x30 r30 := ⟨_, Tryz.func30, by kernel_rfl, by kernel_rfl, by kernel_rfl, by kernel_rfl⟩
-- (*almshouse/house.House).Resize (3 parameters)
def x31 : XC := (.seq (.tree (.seq ⟨some 5, none, (.box (.tmp 2))⟩
  (.seq ⟨some 6, none, (.ofA (.mv (.cst (.v (.int .i64 0)))))⟩
  .done)))
 (.seq (.seq (.tree (.seq ⟨some 13, none, (.ofA (.mv (.tmp 0)))⟩
  (.seq ⟨some 14, none, (.call (.cst (.fn 36 [])) [(.tmp 13)])⟩
  (.seq ⟨some 15, none, (.ofA (.un .not (.tmp 14)))⟩
  .done))))
 (.cond (.tmp 15)
 (.seq (.tree (.seq ⟨some 6, none, (.ofA (.mv (.cst (.v (.int .i64 12)))))⟩
  .done))
 .ret)
 .skip))
 (.seq (.seq (.tree (.take ⟨some 17, none, (.ofA (.mv (.tmp 0)))⟩
  (.take ⟨some 18, none, (.ofA (.nilc (.tmp 17)))⟩
  (.take ⟨some 19, none, (.ofA (.faddr 3 (.tmp 18)))⟩
  (.take ⟨some 20, none, (.ofA (.load (some 22) (.tmp 19)))⟩
  (.take ⟨some 21, none, (.ofA (.mv (.tmp 1)))⟩
  (.take ⟨some 22, none, (.ofA (.load none (.tmp 5)))⟩
  (.alt [true, true] [(⟨some 23, none, (.call (.cst (.fn 90 [])) [(.tmp 20), (.tmp 21), (.tmp 22), (.cst (.v (.slice none 0 0)))])⟩,
 (.take ⟨some 16, none, (.ofA (.mv (.tmp 23)))⟩
  (.take ⟨some 24, none, (.ofA (.extract 0 (.tmp 16)))⟩
  (.take ⟨some 25, none, (.ofA (.extract 1 (.tmp 16)))⟩
  (.alt [true] [(⟨some 7, none, (.alloc [(.v (.int .i64 0)), (.v (.int .i64 0)), (.v (.bool false)), (.v (.int .i64 0)), (.v (.int .i64 0)), (.v (.int .i64 0)), (.v (.slice none 0 0)), (.v (.bool false)), (.v (.int .i64 0)), (.v (.int .i64 0)), (.v (.int .i64 0)), (.v (.slice none 0 0)), (.v (.bool false)), (.v (.int .i64 0)), (.v (.int .i64 0)), (.v (.int .i64 0)), (.v (.slice none 0 0)), (.v (.bool false)), (.v (.int .i64 0)), (.v (.int .i64 0)), (.v (.int .i64 0)), (.v (.slice none 0 0))])⟩,
 (.alt [false] [(⟨none, none, (.store 22 (.tmp 7) (.tmp 24))⟩,
 (.take ⟨some 8, none, (.ofA (.mv (.tmp 25)))⟩
  .done))]))]))))), (⟨some 7, none, (.alloc [(.v (.int .i64 0)), (.v (.int .i64 0)), (.v (.bool false)), (.v (.int .i64 0)), (.v (.int .i64 0)), (.v (.int .i64 0)), (.v (.slice none 0 0)), (.v (.bool false)), (.v (.int .i64 0)), (.v (.int .i64 0)), (.v (.int .i64 0)), (.v (.slice none 0 0)), (.v (.bool false)), (.v (.int .i64 0)), (.v (.int .i64 0)), (.v (.int .i64 0)), (.v (.slice none 0 0)), (.v (.bool false)), (.v (.int .i64 0)), (.v (.int .i64 0)), (.v (.int .i64 0)), (.v (.slice none 0 0))])⟩,
 (.alt [true] [(⟨some 23, none, (.call (.cst (.fn 90 [])) [(.tmp 20), (.tmp 21), (.tmp 22), (.cst (.v (.slice none 0 0)))])⟩,
 (.take ⟨some 16, none, (.ofA (.mv (.tmp 23)))⟩
  (.take ⟨some 24, none, (.ofA (.extract 0 (.tmp 16)))⟩
  (.take ⟨some 25, none, (.ofA (.extract 1 (.tmp 16)))⟩
  (.alt [false] [(⟨none, none, (.store 22 (.tmp 7) (.tmp 24))⟩,
 (.take ⟨some 8, none, (.ofA (.mv (.tmp 25)))⟩
  .done))])))))]))]))))))))
 (.seq (.tree (.seq ⟨some 26, none, (.ofA (.mv (.tmp 8)))⟩
  (.seq ⟨some 27, none, (.ofA (.bin .neq (.tmp 26) (.cst (.v (.int .i64 0)))))⟩
  .done)))
 (.cond (.tmp 27)
 (.seq (.tree (.seq ⟨some 28, none, (.ofA (.mv (.tmp 8)))⟩
  (.seq ⟨some 6, none, (.ofA (.mv (.tmp 28)))⟩
  .done)))
 .ret)
 .skip)))
 (.seq (.tree (.seq ⟨some 29, none, (.ofA (.mv (.tmp 0)))⟩
  (.seq ⟨some 30, none, (.ofA (.mv (.tmp 1)))⟩
  (.seq ⟨some 31, none, (.ofA (.nilc (.tmp 29)))⟩
  (.seq ⟨some 32, none, (.ofA (.faddr 25 (.tmp 31)))⟩
  (.seq ⟨some 33, none, (.ofA (.iarr 4 2 (.tmp 32) (.tmp 30)))⟩
  (.seq ⟨some 34, none, (.ofA (.faddr 0 (.tmp 33)))⟩
  (.seq ⟨some 35, none, (.ofA (.load none (.tmp 34)))⟩
  (.seq ⟨some 9, none, (.alloc [(.v (.pointer none))])⟩
  (.seq ⟨none, none, (.store 1 (.tmp 9) (.tmp 35))⟩
  .done))))))))))
 (.seq (.seq (.tree (.seq ⟨some 36, none, (.ofA (.load none (.tmp 9)))⟩
  (.seq ⟨some 37, none, (.call (.cst (.fn 18 [])) [(.tmp 36)])⟩
  .done)))
 (.cond (.tmp 37)
 (.seq (.tree (.seq ⟨some 6, none, (.ofA (.mv (.cst (.v (.int .i64 13)))))⟩
  .done))
 .ret)
 .skip))
 (.seq (.tree (.seq ⟨some 39, none, (.ofA (.mv (.tmp 0)))⟩
  (.seq ⟨some 40, none, (.ofA (.mv (.tmp 1)))⟩
  (.seq ⟨some 41, none, (.ofA (.load none (.tmp 5)))⟩
  (.seq ⟨some 42, none, (.call (.cst (.fn 91 [])) [(.tmp 39), (.tmp 40), (.tmp 41)])⟩
  (.seq ⟨some 38, none, (.ofA (.mv (.tmp 42)))⟩
  (.seq ⟨some 43, none, (.ofA (.extract 0 (.tmp 38)))⟩
  (.seq ⟨some 44, none, (.ofA (.extract 1 (.tmp 38)))⟩
  (.seq ⟨some 10, none, (.alloc [(.v (.slice none 0 0))])⟩
  (.seq ⟨none, none, (.store 1 (.tmp 10) (.tmp 43))⟩
  (.seq ⟨some 11, none, (.ofA (.mv (.tmp 44)))⟩
  .done)))))))))))
 (.seq (.seq (.tree (.seq ⟨some 45, none, (.ofA (.mv (.tmp 11)))⟩
  (.seq ⟨some 46, none, (.ofA (.bin .neq (.tmp 45) (.cst (.v (.int .i64 0)))))⟩
  .done)))
 (.cond (.tmp 46)
 (.seq (.tree (.seq ⟨some 47, none, (.ofA (.mv (.tmp 11)))⟩
  (.seq ⟨some 6, none, (.ofA (.mv (.tmp 47)))⟩
  .done)))
 .ret)
 .skip))
 (.seq (.seq (.tree (.seq ⟨some 48, none, (.ofA (.mv (.tmp 0)))⟩
  (.seq ⟨some 49, none, (.ofA (.load none (.tmp 9)))⟩
  (.seq ⟨some 50, none, (.ofA (.load none (.tmp 5)))⟩
  (.seq ⟨some 51, none, (.call (.cst (.fn 92 [])) [(.tmp 48), (.tmp 49), (.tmp 50)])⟩
  (.seq ⟨some 11, none, (.ofA (.mv (.tmp 51)))⟩
  .done))))))
 (.seq (.tree (.seq ⟨some 52, none, (.ofA (.mv (.tmp 11)))⟩
  (.seq ⟨some 53, none, (.ofA (.bin .eql (.tmp 52) (.cst (.v (.int .i64 0)))))⟩
  .done)))
 (.cond (.tmp 53)
 (.tree (.seq ⟨some 54, none, (.ofA (.mv (.tmp 0)))⟩
  (.seq ⟨some 55, none, (.ofA (.load none (.tmp 10)))⟩
  (.seq ⟨some 56, none, (.call (.cst (.fn 83 [])) [(.tmp 54), (.tmp 55)])⟩
  (.seq ⟨some 11, none, (.ofA (.mv (.tmp 56)))⟩
  .done)))))
 .skip)))
 (.seq (.seq (.tree (.seq ⟨some 57, none, (.ofA (.mv (.tmp 11)))⟩
  (.seq ⟨some 58, none, (.ofA (.bin .neq (.tmp 57) (.cst (.v (.int .i64 0)))))⟩
  .done)))
 (.cond (.tmp 58)
 (.seq (.tree (.seq ⟨some 59, none, (.ofA (.mv (.tmp 0)))⟩
  (.seq ⟨some 60, none, (.call (.cst (.fn 73 [])) [(.tmp 59)])⟩
  .done)))
 (.seq (.tree (.seq ⟨some 61, none, (.ofA (.mv (.tmp 11)))⟩
  (.seq ⟨some 6, none, (.ofA (.mv (.tmp 61)))⟩
  .done)))
 .ret))
 .skip))
 (.seq (.tree (.take ⟨some 63, none, (.ofA (.mv (.tmp 0)))⟩
  (.take ⟨some 64, none, (.ofA (.nilc (.tmp 63)))⟩
  (.take ⟨some 65, none, (.ofA (.faddr 3 (.tmp 64)))⟩
  (.take ⟨some 66, none, (.ofA (.load (some 22) (.tmp 65)))⟩
  (.take ⟨some 67, none, (.ofA (.mv (.tmp 1)))⟩
  (.take ⟨some 68, none, (.ofA (.load none (.tmp 5)))⟩
  (.take ⟨some 69, none, (.ofA (.load none (.tmp 10)))⟩
  (.alt [true, true] [(⟨some 70, none, (.call (.cst (.fn 90 [])) [(.tmp 66), (.tmp 67), (.tmp 68), (.tmp 69)])⟩,
 (.take ⟨some 62, none, (.ofA (.mv (.tmp 70)))⟩
  (.take ⟨some 71, none, (.ofA (.extract 0 (.tmp 62)))⟩
  (.take ⟨some 72, none, (.ofA (.extract 1 (.tmp 62)))⟩
  (.alt [true] [(⟨some 12, none, (.alloc [(.v (.int .i64 0)), (.v (.int .i64 0)), (.v (.bool false)), (.v (.int .i64 0)), (.v (.int .i64 0)), (.v (.int .i64 0)), (.v (.slice none 0 0)), (.v (.bool false)), (.v (.int .i64 0)), (.v (.int .i64 0)), (.v (.int .i64 0)), (.v (.slice none 0 0)), (.v (.bool false)), (.v (.int .i64 0)), (.v (.int .i64 0)), (.v (.int .i64 0)), (.v (.slice none 0 0)), (.v (.bool false)), (.v (.int .i64 0)), (.v (.int .i64 0)), (.v (.int .i64 0)), (.v (.slice none 0 0))])⟩,
 (.alt [false] [(⟨none, none, (.store 22 (.tmp 12) (.tmp 71))⟩,
 (.take ⟨some 11, none, (.ofA (.mv (.tmp 72)))⟩
  .done))]))]))))), (⟨some 12, none, (.alloc [(.v (.int .i64 0)), (.v (.int .i64 0)), (.v (.bool false)), (.v (.int .i64 0)), (.v (.int .i64 0)), (.v (.int .i64 0)), (.v (.slice none 0 0)), (.v (.bool false)), (.v (.int .i64 0)), (.v (.int .i64 0)), (.v (.int .i64 0)), (.v (.slice none 0 0)), (.v (.bool false)), (.v (.int .i64 0)), (.v (.int .i64 0)), (.v (.int .i64 0)), (.v (.slice none 0 0)), (.v (.bool false)), (.v (.int .i64 0)), (.v (.int .i64 0)), (.v (.int .i64 0)), (.v (.slice none 0 0))])⟩,
 (.alt [true] [(⟨some 70, none, (.call (.cst (.fn 90 [])) [(.tmp 66), (.tmp 67), (.tmp 68), (.tmp 69)])⟩,
 (.take ⟨some 62, none, (.ofA (.mv (.tmp 70)))⟩
  (.take ⟨some 71, none, (.ofA (.extract 0 (.tmp 62)))⟩
  (.take ⟨some 72, none, (.ofA (.extract 1 (.tmp 62)))⟩
  (.alt [false] [(⟨none, none, (.store 22 (.tmp 12) (.tmp 71))⟩,
 (.take ⟨some 11, none, (.ofA (.mv (.tmp 72)))⟩
  .done))])))))]))])))))))))
 (.seq (.tree (.seq ⟨some 73, none, (.ofA (.mv (.tmp 0)))⟩
  (.seq ⟨some 74, none, (.ofA (.load (some 22) (.tmp 12)))⟩
  (.seq ⟨some 75, none, (.ofA (.mv (.tmp 11)))⟩
  (.seq ⟨some 76, none, (.ofA (.mkfn 93 [(.tmp 9), (.tmp 5), (.tmp 10)]))⟩
  (.seq ⟨some 77, none, (.call (.cst (.fn 84 [])) [(.tmp 73), (.tmp 74), (.tmp 75), (.tmp 76)])⟩
  (.seq ⟨some 6, none, (.ofA (.mv (.tmp 77)))⟩
  .done)))))))
 .ret)))))))))))
def r31 : List XR := [.tmp 6]
theorem fn31 : FnX Tryz.prog 31 EFF 78 x31 r31 := ⟨_, Tryz.func31, by kernel_rfl, by kernel_rfl, by kernel_rfl, by kernel_rfl⟩
-- (*almshouse/house.House).Swap (3 parameters)
def x32 : XC := (.seq (.tree (.seq ⟨some 4, none, (.box (.tmp 1))⟩
  (.seq ⟨some 5, none, (.box (.tmp 2))⟩
  (.seq ⟨some 6, none, (.ofA (.mv (.cst (.v (.int .i64 0)))))⟩
  .done))))
 (.seq (.seq (.tree (.seq ⟨some 18, none, (.ofA (.load none (.tmp 4)))⟩
  (.seq ⟨some 19, none, (.ofA (.load none (.tmp 5)))⟩
  (.seq ⟨some 20, none, (.buildSl 1 2 [(.v (.int .i64 0)), (.v (.int .i64 0))] [(0, 1, (.tmp 18)), (1, 1, (.tmp 19))])⟩
  (.seq ⟨some 21, none, (.ofA (.len (.tmp 20)))⟩
  (.seq ⟨some 22, none, (.ofA (.mv (.cst (.v (.int .i64 0)))))⟩
  .done))))))
 (.block 0 (.loop (.seq (.tree (.seq ⟨some 23, none, (.ofA (.bin .lss (.tmp 22) (.tmp 21)))⟩
  .done))
 (.seq (.cond (.tmp 23)
 .skip
 (.exit 0))
 (.seq (.block 1 (.seq (.tree (.seq ⟨some 24, none, (.ofA (.isl 1 (.tmp 20) (.tmp 22)))⟩
  (.seq ⟨some 25, none, (.ofA (.load none (.tmp 24)))⟩
  (.seq ⟨some 8, none, (.ofA (.mv (.tmp 25)))⟩
  .done))))
 (.seq (.tree (.seq ⟨some 26, none, (.ofA (.mv (.tmp 0)))⟩
  (.seq ⟨some 27, none, (.ofA (.mv (.tmp 8)))⟩
  (.seq ⟨some 28, none, (.call (.cst (.fn 75 [])) [(.tmp 26), (.tmp 27)])⟩
  (.seq ⟨some 9, none, (.ofA (.mv (.tmp 28)))⟩
  .done)))))
 (.seq (.tree (.seq ⟨some 29, none, (.ofA (.mv (.tmp 9)))⟩
  (.seq ⟨some 30, none, (.ofA (.bin .neq (.tmp 29) (.cst (.v (.int .i64 0)))))⟩
  .done)))
 (.cond (.tmp 30)
 (.seq (.tree (.seq ⟨some 31, none, (.ofA (.mv (.tmp 9)))⟩
  (.seq ⟨some 6, none, (.ofA (.mv (.tmp 31)))⟩
  .done)))
 .ret)
 .skip)))))
 (.tree (.seq ⟨some 32, none, (.ofA (.bin .add (.tmp 22) (.cst (.v (.int .i64 1)))))⟩
  (.seq ⟨some 22, none, (.ofA (.mv (.tmp 32)))⟩
  .done)))))))))
 (.seq (.seq (.tree (.seq ⟨some 33, none, (.ofA (.load none (.tmp 4)))⟩
  (.seq ⟨some 34, none, (.ofA (.load none (.tmp 5)))⟩
  (.seq ⟨some 35, none, (.ofA (.bin .eql (.tmp 33) (.tmp 34)))⟩
  .done))))
 (.cond (.tmp 35)
 (.seq (.tree (.seq ⟨some 6, none, (.ofA (.mv (.cst (.v (.int .i64 1)))))⟩
  .done))
 .ret)
 .skip))
 (.seq (.tree (.take ⟨some 36, none, (.ofA (.mv (.tmp 0)))⟩
  (.take ⟨some 37, none, (.ofA (.load none (.tmp 4)))⟩
  (.take ⟨some 38, none, (.ofA (.nilc (.tmp 36)))⟩
  (.take ⟨some 39, none, (.ofA (.faddr 25 (.tmp 38)))⟩
  (.take ⟨some 40, none, (.ofA (.iarr 4 2 (.tmp 39) (.tmp 37)))⟩
  (.take ⟨some 41, none, (.ofA (.faddr 0 (.tmp 40)))⟩
  (.take ⟨some 42, none, (.ofA (.load none (.tmp 41)))⟩
  (.take ⟨some 43, none, (.ofA (.mv (.tmp 0)))⟩
  (.take ⟨some 45, none, (.ofA (.nilc (.tmp 43)))⟩
  (.take ⟨some 46, none, (.ofA (.faddr 25 (.tmp 45)))⟩
  (.alt [true, true, true] [(⟨some 44, none, (.ofA (.load none (.tmp 5)))⟩,
 (.take ⟨some 47, none, (.ofA (.iarr 4 2 (.tmp 46) (.tmp 44)))⟩
  (.take ⟨some 48, none, (.ofA (.faddr 0 (.tmp 47)))⟩
  (.alt [true, true, true] [(⟨some 49, none, (.ofA (.load none (.tmp 48)))⟩,
 (.alt [true, true] [(⟨some 10, none, (.alloc [(.v (.pointer none))])⟩,
 (.alt [true] [(⟨some 11, none, (.alloc [(.v (.pointer none))])⟩,
 (.alt [false] [(⟨none, none, (.store 1 (.tmp 10) (.tmp 42))⟩,
 (.alt [false] [(⟨none, none, (.store 1 (.tmp 11) (.tmp 49))⟩,
 .done)]))]))])), (⟨some 11, none, (.alloc [(.v (.pointer none))])⟩,
 (.alt [true] [(⟨some 10, none, (.alloc [(.v (.pointer none))])⟩,
 (.alt [false] [(⟨none, none, (.store 1 (.tmp 10) (.tmp 42))⟩,
 (.alt [false] [(⟨none, none, (.store 1 (.tmp 11) (.tmp 49))⟩,
 .done)]))]))]))])), (⟨some 10, none, (.alloc [(.v (.pointer none))])⟩,
 (.alt [true, true] [(⟨some 49, none, (.ofA (.load none (.tmp 48)))⟩,
 (.alt [true] [(⟨some 11, none, (.alloc [(.v (.pointer none))])⟩,
 (.alt [false] [(⟨none, none, (.store 1 (.tmp 10) (.tmp 42))⟩,
 (.alt [false] [(⟨none, none, (.store 1 (.tmp 11) (.tmp 49))⟩,
 .done)]))]))])), (⟨some 11, none, (.alloc [(.v (.pointer none))])⟩,
 (.alt [true, false] [(⟨some 49, none, (.ofA (.load none (.tmp 48)))⟩,
 (.alt [false] [(⟨none, none, (.store 1 (.tmp 10) (.tmp 42))⟩,
 (.alt [false] [(⟨none, none, (.store 1 (.tmp 11) (.tmp 49))⟩,
 .done)]))])), (⟨none, none, (.store 1 (.tmp 10) (.tmp 42))⟩,
 (.take ⟨some 49, none, (.ofA (.load none (.tmp 48)))⟩
  (.alt [false] [(⟨none, none, (.store 1 (.tmp 11) (.tmp 49))⟩,
 .done)])))]))])), (⟨some 11, none, (.alloc [(.v (.pointer none))])⟩,
 (.alt [true, true] [(⟨some 49, none, (.ofA (.load none (.tmp 48)))⟩,
 (.alt [true] [(⟨some 10, none, (.alloc [(.v (.pointer none))])⟩,
 (.alt [false] [(⟨none, none, (.store 1 (.tmp 10) (.tmp 42))⟩,
 (.alt [false] [(⟨none, none, (.store 1 (.tmp 11) (.tmp 49))⟩,
 .done)]))]))])), (⟨some 10, none, (.alloc [(.v (.pointer none))])⟩,
 (.alt [true, false] [(⟨some 49, none, (.ofA (.load none (.tmp 48)))⟩,
 (.alt [false] [(⟨none, none, (.store 1 (.tmp 10) (.tmp 42))⟩,
 (.alt [false] [(⟨none, none, (.store 1 (.tmp 11) (.tmp 49))⟩,
 .done)]))])), (⟨none, none, (.store 1 (.tmp 10) (.tmp 42))⟩,
 (.take ⟨some 49, none, (.ofA (.load none (.tmp 48)))⟩
  (.alt [false] [(⟨none, none, (.store 1 (.tmp 11) (.tmp 49))⟩,
 .done)])))]))]))])))), (⟨some 10, none, (.alloc [(.v (.pointer none))])⟩,
 (.alt [true, true] [(⟨some 44, none, (.ofA (.load none (.tmp 5)))⟩,
 (.take ⟨some 47, none, (.ofA (.iarr 4 2 (.tmp 46) (.tmp 44)))⟩
  (.take ⟨some 48, none, (.ofA (.faddr 0 (.tmp 47)))⟩
  (.alt [true, true] [(⟨some 49, none, (.ofA (.load none (.tmp 48)))⟩,
 (.alt [true] [(⟨some 11, none, (.alloc [(.v (.pointer none))])⟩,
 (.alt [false] [(⟨none, none, (.store 1 (.tmp 10) (.tmp 42))⟩,
 (.alt [false] [(⟨none, none, (.store 1 (.tmp 11) (.tmp 49))⟩,
 .done)]))]))])), (⟨some 11, none, (.alloc [(.v (.pointer none))])⟩,
 (.alt [true, false] [(⟨some 49, none, (.ofA (.load none (.tmp 48)))⟩,
 (.alt [false] [(⟨none, none, (.store 1 (.tmp 10) (.tmp 42))⟩,
 (.alt [false] [(⟨none, none, (.store 1 (.tmp 11) (.tmp 49))⟩,
 .done)]))])), (⟨none, none, (.store 1 (.tmp 10) (.tmp 42))⟩,
 (.take ⟨some 49, none, (.ofA (.load none (.tmp 48)))⟩
  (.alt [false] [(⟨none, none, (.store 1 (.tmp 11) (.tmp 49))⟩,
 .done)])))]))])))), (⟨some 11, none, (.alloc [(.v (.pointer none))])⟩,
 (.alt [true, false] [(⟨some 44, none, (.ofA (.load none (.tmp 5)))⟩,
 (.take ⟨some 47, none, (.ofA (.iarr 4 2 (.tmp 46) (.tmp 44)))⟩
  (.take ⟨some 48, none, (.ofA (.faddr 0 (.tmp 47)))⟩
  (.alt [true, false] [(⟨some 49, none, (.ofA (.load none (.tmp 48)))⟩,
 (.alt [false] [(⟨none, none, (.store 1 (.tmp 10) (.tmp 42))⟩,
 (.alt [false] [(⟨none, none, (.store 1 (.tmp 11) (.tmp 49))⟩,
 .done)]))])), (⟨none, none, (.store 1 (.tmp 10) (.tmp 42))⟩,
 (.take ⟨some 49, none, (.ofA (.load none (.tmp 48)))⟩
  (.alt [false] [(⟨none, none, (.store 1 (.tmp 11) (.tmp 49))⟩,
 .done)])))])))), (⟨none, none, (.store 1 (.tmp 10) (.tmp 42))⟩,
 (.take ⟨some 44, none, (.ofA (.load none (.tmp 5)))⟩
  (.take ⟨some 47, none, (.ofA (.iarr 4 2 (.tmp 46) (.tmp 44)))⟩
  (.take ⟨some 48, none, (.ofA (.faddr 0 (.tmp 47)))⟩
  (.take ⟨some 49, none, (.ofA (.load none (.tmp 48)))⟩
  (.alt [false] [(⟨none, none, (.store 1 (.tmp 11) (.tmp 49))⟩,
 .done)]))))))]))])), (⟨some 11, none, (.alloc [(.v (.pointer none))])⟩,
 (.alt [true, true] [(⟨some 44, none, (.ofA (.load none (.tmp 5)))⟩,
 (.take ⟨some 47, none, (.ofA (.iarr 4 2 (.tmp 46) (.tmp 44)))⟩
  (.take ⟨some 48, none, (.ofA (.faddr 0 (.tmp 47)))⟩
  (.alt [true, true] [(⟨some 49, none, (.ofA (.load none (.tmp 48)))⟩,
 (.alt [true] [(⟨some 10, none, (.alloc [(.v (.pointer none))])⟩,
 (.alt [false] [(⟨none, none, (.store 1 (.tmp 10) (.tmp 42))⟩,
 (.alt [false] [(⟨none, none, (.store 1 (.tmp 11) (.tmp 49))⟩,
 .done)]))]))])), (⟨some 10, none, (.alloc [(.v (.pointer none))])⟩,
 (.alt [true, false] [(⟨some 49, none, (.ofA (.load none (.tmp 48)))⟩,
 (.alt [false] [(⟨none, none, (.store 1 (.tmp 10) (.tmp 42))⟩,
 (.alt [false] [(⟨none, none, (.store 1 (.tmp 11) (.tmp 49))⟩,
 .done)]))])), (⟨none, none, (.store 1 (.tmp 10) (.tmp 42))⟩,
 (.take ⟨some 49, none, (.ofA (.load none (.tmp 48)))⟩
  (.alt [false] [(⟨none, none, (.store 1 (.tmp 11) (.tmp 49))⟩,
 .done)])))]))])))), (⟨some 10, none, (.alloc [(.v (.pointer none))])⟩,
 (.alt [true, false] [(⟨some 44, none, (.ofA (.load none (.tmp 5)))⟩,
 (.take ⟨some 47, none, (.ofA (.iarr 4 2 (.tmp 46) (.tmp 44)))⟩
  (.take ⟨some 48, none, (.ofA (.faddr 0 (.tmp 47)))⟩
  (.alt [true, false] [(⟨some 49, none, (.ofA (.load none (.tmp 48)))⟩,
 (.alt [false] [(⟨none, none, (.store 1 (.tmp 10) (.tmp 42))⟩,
 (.alt [false] [(⟨none, none, (.store 1 (.tmp 11) (.tmp 49))⟩,
 .done)]))])), (⟨none, none, (.store 1 (.tmp 10) (.tmp 42))⟩,
 (.take ⟨some 49, none, (.ofA (.load none (.tmp 48)))⟩
  (.alt [false] [(⟨none, none, (.store 1 (.tmp 11) (.tmp 49))⟩,
 .done)])))])))), (⟨none, none, (.store 1 (.tmp 10) (.tmp 42))⟩,
 (.take ⟨some 44, none, (.ofA (.load none (.tmp 5)))⟩
  (.take ⟨some 47, none, (.ofA (.iarr 4 2 (.tmp 46) (.tmp 44)))⟩
  (.take ⟨some 48, none, (.ofA (.faddr 0 (.tmp 47)))⟩
  (.take ⟨some 49, none, (.ofA (.load none (.tmp 48)))⟩
  (.alt [false] [(⟨none, none, (.store 1 (.tmp 11) (.tmp 49))⟩,
 .done)]))))))]))]))]))))))))))))
 (.seq (.tree (.seq ⟨some 51, none, (.ofA (.load none (.tmp 10)))⟩
  (.seq ⟨some 52, none, (.call (.cst (.fn 8 [])) [(.tmp 51)])⟩
  (.seq ⟨some 50, none, (.ofA (.mv (.tmp 52)))⟩
  (.seq ⟨some 53, none, (.ofA (.extract 0 (.tmp 50)))⟩
  (.seq ⟨some 54, none, (.ofA (.extract 1 (.tmp 50)))⟩
  (.seq ⟨some 12, none, (.alloc [(.v (.int .i64 0))])⟩
  (.seq ⟨none, none, (.store 1 (.tmp 12) (.tmp 53))⟩
  (.seq ⟨some 13, none, (.ofA (.mv (.tmp 54)))⟩
  .done)))))))))
 (.seq (.tree (.seq ⟨some 56, none, (.ofA (.load none (.tmp 11)))⟩
  (.seq ⟨some 57, none, (.call (.cst (.fn 8 [])) [(.tmp 56)])⟩
  (.seq ⟨some 55, none, (.ofA (.mv (.tmp 57)))⟩
  (.seq ⟨some 58, none, (.ofA (.extract 0 (.tmp 55)))⟩
  (.seq ⟨some 59, none, (.ofA (.extract 1 (.tmp 55)))⟩
  (.seq ⟨some 14, none, (.alloc [(.v (.int .i64 0))])⟩
  (.seq ⟨none, none, (.store 1 (.tmp 14) (.tmp 58))⟩
  (.seq ⟨some 15, none, (.ofA (.mv (.tmp 59)))⟩
  .done)))))))))
 (.seq (.seq (.tree (.seq ⟨some 60, none, (.ofA (.load none (.tmp 10)))⟩
  (.seq ⟨some 61, none, (.call (.cst (.fn 18 [])) [(.tmp 60)])⟩
  (.seq ⟨some 62, none, (.ofA (.mv (.tmp 61)))⟩
  (.seq ⟨some 63, some (62, false), (.ofA (.load none (.tmp 11)))⟩
  (.seq ⟨some 64, some (62, false), (.call (.cst (.fn 18 [])) [(.tmp 63)])⟩
  (.seq ⟨some 65, none, (.ofA (.pick (.tmp 62) (.cst (.v (.bool true))) (.tmp 64)))⟩
  (.seq ⟨some 66, none, (.ofA (.mv (.tmp 65)))⟩
  (.seq ⟨some 67, some (66, false), (.ofA (.mv (.tmp 13)))⟩
  (.seq ⟨some 68, some (66, false), (.ofA (.un .not (.tmp 67)))⟩
  (.seq ⟨some 69, none, (.ofA (.pick (.tmp 66) (.cst (.v (.bool true))) (.tmp 68)))⟩
  (.seq ⟨some 70, none, (.ofA (.mv (.tmp 69)))⟩
  (.seq ⟨some 71, some (70, false), (.ofA (.mv (.tmp 15)))⟩
  (.seq ⟨some 72, some (70, false), (.ofA (.un .not (.tmp 71)))⟩
  (.seq ⟨some 73, none, (.ofA (.pick (.tmp 70) (.cst (.v (.bool true))) (.tmp 72)))⟩
  .done)))))))))))))))
 (.cond (.tmp 73)
 (.seq (.tree (.seq ⟨some 6, none, (.ofA (.mv (.cst (.v (.int .i64 13)))))⟩
  .done))
 .ret)
 .skip))
 (.seq (.tree (.take ⟨some 75, none, (.ofA (.mv (.tmp 0)))⟩
  (.take ⟨some 76, none, (.ofA (.nilc (.tmp 75)))⟩
  (.take ⟨some 77, none, (.ofA (.faddr 3 (.tmp 76)))⟩
  (.take ⟨some 78, none, (.ofA (.load (some 22) (.tmp 77)))⟩
  (.take ⟨some 79, none, (.ofA (.load none (.tmp 4)))⟩
  (.take ⟨some 80, none, (.ofA (.load none (.tmp 12)))⟩
  (.take ⟨some 81, none, (.ofA (.load none (.tmp 5)))⟩
  (.take ⟨some 82, none, (.ofA (.load none (.tmp 14)))⟩
  (.alt [true, true] [(⟨some 83, none, (.call (.cst (.fn 94 [])) [(.tmp 78), (.tmp 79), (.tmp 80), (.tmp 81), (.tmp 82)])⟩,
 (.take ⟨some 74, none, (.ofA (.mv (.tmp 83)))⟩
  (.take ⟨some 84, none, (.ofA (.extract 0 (.tmp 74)))⟩
  (.take ⟨some 85, none, (.ofA (.extract 1 (.tmp 74)))⟩
  (.alt [true] [(⟨some 16, none, (.alloc [(.v (.int .i64 0)), (.v (.int .i64 0)), (.v (.bool false)), (.v (.int .i64 0)), (.v (.int .i64 0)), (.v (.int .i64 0)), (.v (.slice none 0 0)), (.v (.bool false)), (.v (.int .i64 0)), (.v (.int .i64 0)), (.v (.int .i64 0)), (.v (.slice none 0 0)), (.v (.bool false)), (.v (.int .i64 0)), (.v (.int .i64 0)), (.v (.int .i64 0)), (.v (.slice none 0 0)), (.v (.bool false)), (.v (.int .i64 0)), (.v (.int .i64 0)), (.v (.int .i64 0)), (.v (.slice none 0 0))])⟩,
 (.alt [false] [(⟨none, none, (.store 22 (.tmp 16) (.tmp 84))⟩,
 (.take ⟨some 17, none, (.ofA (.mv (.tmp 85)))⟩
  .done))]))]))))), (⟨some 16, none, (.alloc [(.v (.int .i64 0)), (.v (.int .i64 0)), (.v (.bool false)), (.v (.int .i64 0)), (.v (.int .i64 0)), (.v (.int .i64 0)), (.v (.slice none 0 0)), (.v (.bool false)), (.v (.int .i64 0)), (.v (.int .i64 0)), (.v (.int .i64 0)), (.v (.slice none 0 0)), (.v (.bool false)), (.v (.int .i64 0)), (.v (.int .i64 0)), (.v (.int .i64 0)), (.v (.slice none 0 0)), (.v (.bool false)), (.v (.int .i64 0)), (.v (.int .i64 0)), (.v (.int .i64 0)), (.v (.slice none 0 0))])⟩,
 (.alt [true] [(⟨some 83, none, (.call (.cst (.fn 94 [])) [(.tmp 78), (.tmp 79), (.tmp 80), (.tmp 81), (.tmp 82)])⟩,
 (.take ⟨some 74, none, (.ofA (.mv (.tmp 83)))⟩
  (.take ⟨some 84, none, (.ofA (.extract 0 (.tmp 74)))⟩
  (.take ⟨some 85, none, (.ofA (.extract 1 (.tmp 74)))⟩
  (.alt [false] [(⟨none, none, (.store 22 (.tmp 16) (.tmp 84))⟩,
 (.take ⟨some 17, none, (.ofA (.mv (.tmp 85)))⟩
  .done))])))))]))]))))))))))
 (.seq (.tree (.seq ⟨some 86, none, (.ofA (.mv (.tmp 0)))⟩
  (.seq ⟨some 87, none, (.ofA (.load (some 22) (.tmp 16)))⟩
  (.seq ⟨some 88, none, (.ofA (.mv (.tmp 17)))⟩
  (.seq ⟨some 89, none, (.ofA (.mkfn 95 [(.tmp 10), (.tmp 12), (.tmp 16), (.tmp 4), (.tmp 11), (.tmp 14), (.tmp 5)]))⟩
  (.seq ⟨some 90, none, (.call (.cst (.fn 84 [])) [(.tmp 86), (.tmp 87), (.tmp 88), (.tmp 89)])⟩
  (.seq ⟨some 6, none, (.ofA (.mv (.tmp 90)))⟩
  .done)))))))
 .ret)))))))))
def r32 : List XR := [.tmp 6]
theorem fn32 : FnX Tryz.prog 32 EFF 91 x32 r32 := ⟨_, Tryz.func32, by kernel_rfl, by kernel_rfl, by kernel_rfl, by kernel_rfl⟩
-- (*almshouse/house.House).Submit (3 parameters)
def x33 : XC := (.seq (.tree (.seq ⟨some 5, none, (.box (.tmp 2))⟩
  (.seq ⟨some 6, none, (.ofA (.mv (.cst (.v (.int .i64 0)))))⟩
  .done)))
 (.seq (.seq (.tree (.seq ⟨some 8, none, (.ofA (.mv (.tmp 0)))⟩
  (.seq ⟨some 9, none, (.ofA (.mv (.tmp 1)))⟩
  (.seq ⟨some 10, none, (.call (.cst (.fn 75 [])) [(.tmp 8), (.tmp 9)])⟩
  (.seq ⟨some 7, none, (.ofA (.mv (.tmp 10)))⟩
  .done)))))
 (.seq (.tree (.seq ⟨some 11, none, (.ofA (.mv (.tmp 7)))⟩
  (.seq ⟨some 12, none, (.ofA (.bin .neq (.tmp 11) (.cst (.v (.int .i64 0)))))⟩
  .done)))
 (.cond (.tmp 12)
 (.seq (.tree (.seq ⟨some 13, none, (.ofA (.mv (.tmp 7)))⟩
  (.seq ⟨some 6, none, (.ofA (.mv (.tmp 13)))⟩
  .done)))
 .ret)
 .skip)))
 (.seq (.tree (.take ⟨some 14, none, (.ofA (.mv (.tmp 0)))⟩
  (.take ⟨some 15, none, (.ofA (.mv (.tmp 1)))⟩
  (.take ⟨some 16, none, (.ofA (.nilc (.tmp 14)))⟩
  (.take ⟨some 17, none, (.ofA (.faddr 25 (.tmp 16)))⟩
  (.take ⟨some 18, none, (.ofA (.iarr 4 2 (.tmp 17) (.tmp 15)))⟩
  (.take ⟨some 19, none, (.ofA (.faddr 1 (.tmp 18)))⟩
  (.take ⟨some 20, none, (.ofA (.load none (.tmp 19)))⟩
  (.take ⟨some 21, none, (.ofA (.load (some 3) (.tmp 5)))⟩
  (.alt [false] [(⟨some 22, none, (.call (.cst (.fn 96 [])) [(.tmp 20), (.tmp 21)])⟩,
 (.take ⟨some 6, none, (.ofA (.mv (.tmp 22)))⟩
  .done))]))))))))))
 .ret)))
def r33 : List XR := [.tmp 6]
theorem fn33 : FnX Tryz.prog 33 EFF 23 x33 r33 := ⟨_, Tryz.func33, by kernel_rfl, by kernel_rfl, by kernel_rfl, by kernel_rfl⟩
-- (*almshouse/house.House).Mount (2 parameters)
def x34 : XC := (.seq (.tree (.seq ⟨some 4, none, (.ofA (.mv (.cst (.v (.int .i64 0)))))⟩
  .done))
 (.seq (.block 0 (.seq (.tree (.seq ⟨some 11, none, (.ofA (.mv (.tmp 0)))⟩
  (.seq ⟨some 12, none, (.ofA (.eqn false 1 (.tmp 11) (.cst (.v (.pointer none)))))⟩
  (.seq ⟨some 10, none, (.ofA (.mv (.tmp 12)))⟩
  .done))))
 (.cond (.tmp 10)
 (.seq (.tree (.seq ⟨some 4, none, (.ofA (.mv (.cst (.v (.int .i64 12)))))⟩
  .done))
 .ret)
 (.seq (.tree (.seq ⟨some 14, none, (.ofA (.mv (.tmp 0)))⟩
  (.seq ⟨some 15, none, (.ofA (.nilc (.tmp 14)))⟩
  (.seq ⟨some 16, none, (.ofA (.faddr 34 (.tmp 15)))⟩
  (.seq ⟨some 17, none, (.ofA (.load none (.tmp 16)))⟩
  (.seq ⟨some 13, none, (.ofA (.mv (.tmp 17)))⟩
  .done))))))
 (.cond (.tmp 13)
 (.seq (.tree (.seq ⟨some 4, none, (.ofA (.mv (.cst (.v (.int .i64 7)))))⟩
  .done))
 .ret)
 .skip)))))
 (.seq (.tree (.seq ⟨some 18, none, (.ofA (.mv (.tmp 0)))⟩
  (.seq ⟨some 19, none, (.ofA (.nilc (.tmp 18)))⟩
  (.seq ⟨some 20, none, (.ofA (.faddr 1 (.tmp 19)))⟩
  (.seq ⟨some 21, none, (.ofA (.load none (.tmp 20)))⟩
  (.seq ⟨some 22, none, (.ofA (.mv (.tmp 1)))⟩
  (.seq ⟨some 23, none, (.call (.cst (.fn 74 [])) [(.tmp 21), (.tmp 22)])⟩
  .done)))))))
 (.seq (.tree (.seq ⟨some 25, none, (.ofA (.mv (.tmp 0)))⟩
  (.seq ⟨some 26, none, (.ofA (.nilc (.tmp 25)))⟩
  (.seq ⟨some 27, none, (.ofA (.faddr 0 (.tmp 26)))⟩
  (.seq ⟨some 28, none, (.ofA (.load none (.tmp 27)))⟩
  (.seq ⟨some 29, none, (.call (.cst (.fn 97 [])) [(.tmp 28)])⟩
  (.seq ⟨some 24, none, (.ofA (.mv (.tmp 29)))⟩
  (.seq ⟨some 30, none, (.ofA (.extract 0 (.tmp 24)))⟩
  (.seq ⟨some 31, none, (.ofA (.extract 1 (.tmp 24)))⟩
  (.seq ⟨some 5, none, (.alloc [(.v (.int .i64 0)), (.v (.int .i64 0)), (.v (.bool false)), (.v (.int .i64 0)), (.v (.int .i64 0)), (.v (.int .i64 0)), (.v (.slice none 0 0)), (.v (.bool false)), (.v (.int .i64 0)), (.v (.int .i64 0)), (.v (.int .i64 0)), (.v (.slice none 0 0)), (.v (.bool false)), (.v (.int .i64 0)), (.v (.int .i64 0)), (.v (.int .i64 0)), (.v (.slice none 0 0)), (.v (.bool false)), (.v (.int .i64 0)), (.v (.int .i64 0)), (.v (.int .i64 0)), (.v (.slice none 0 0))])⟩
  (.seq ⟨none, none, (.store 22 (.tmp 5) (.tmp 30))⟩
  (.seq ⟨some 6, none, (.ofA (.mv (.tmp 31)))⟩
  .done))))))))))))
 (.seq (.tree (.seq ⟨some 7, none, (.alloc [(.v (.pointer none)), (.v (.pointer none)), (.v (.pointer none)), (.v (.pointer none))])⟩
  .done))
 (.seq (.seq (.tree (.seq ⟨some 32, none, (.ofA (.mv (.cst (.v (.int .i64 0)))))⟩
  .done))
 (.block 1 (.loop (.seq (.tree (.seq ⟨some 33, none, (.ofA (.bin .lss (.tmp 32) (.cst (.v (.int .i64 4)))))⟩
  .done))
 (.seq (.cond (.tmp 33)
 .skip
 (.exit 1))
 (.seq (.block 2 (.seq (.tree (.seq ⟨some 34, none, (.ofA (.mv (.tmp 32)))⟩
  (.seq ⟨some 8, none, (.ofA (.mv (.tmp 34)))⟩
  .done)))
 (.seq (.tree (.seq ⟨some 35, none, (.ofA (.mv (.tmp 6)))⟩
  (.seq ⟨some 36, none, (.ofA (.bin .eql (.tmp 35) (.cst (.v (.int .i64 0)))))⟩
  (.seq ⟨some 37, none, (.ofA (.mv (.tmp 36)))⟩
  (.seq ⟨some 38, some (37, true), (.ofA (.mv (.tmp 8)))⟩
  (.seq ⟨some 39, some (37, true), (.ofA (.faddr 2 (.tmp 5)))⟩
  (.seq ⟨some 40, some (37, true), (.ofA (.iarr 4 5 (.tmp 39) (.tmp 38)))⟩
  (.seq ⟨some 41, some (37, true), (.ofA (.faddr 0 (.tmp 40)))⟩
  (.seq ⟨some 42, some (37, true), (.ofA (.load none (.tmp 41)))⟩
  (.seq ⟨some 43, none, (.ofA (.pick (.tmp 37) (.tmp 42) (.cst (.v (.bool false)))))⟩
  .done))))))))))
 (.cond (.tmp 43)
 (.tree (.take ⟨some 45, none, (.ofA (.mv (.tmp 8)))⟩
  (.take ⟨some 46, none, (.ofA (.mv (.tmp 0)))⟩
  (.take ⟨some 47, none, (.ofA (.nilc (.tmp 46)))⟩
  (.take ⟨some 48, none, (.ofA (.faddr 0 (.tmp 47)))⟩
  (.take ⟨some 49, none, (.ofA (.load none (.tmp 48)))⟩
  (.take ⟨some 50, none, (.ofA (.mv (.tmp 8)))⟩
  (.take ⟨some 51, none, (.ofA (.mv (.tmp 8)))⟩
  (.take ⟨some 52, none, (.ofA (.faddr 2 (.tmp 5)))⟩
  (.take ⟨some 53, none, (.ofA (.iarr 4 5 (.tmp 52) (.tmp 51)))⟩
  (.take ⟨some 54, none, (.ofA (.load (some 5) (.tmp 53)))⟩
  (.alt [true] [(⟨some 55, none, (.call (.cst (.fn 98 [])) [(.tmp 49), (.tmp 50), (.tmp 54)])⟩,
 (.take ⟨some 44, none, (.ofA (.mv (.tmp 55)))⟩
  (.take ⟨some 56, none, (.ofA (.extract 0 (.tmp 44)))⟩
  (.take ⟨some 57, none, (.ofA (.extract 1 (.tmp 44)))⟩
  (.take ⟨some 58, none, (.ofA (.iarr 4 1 (.tmp 7) (.tmp 45)))⟩
  (.alt [false] [(⟨none, none, (.store 1 (.tmp 58) (.tmp 56))⟩,
 (.take ⟨some 6, none, (.ofA (.mv (.tmp 57)))⟩
  .done))]))))))]))))))))))))
 .skip))))
 (.tree (.seq ⟨some 59, none, (.ofA (.bin .add (.tmp 32) (.cst (.v (.int .i64 1)))))⟩
  (.seq ⟨some 32, none, (.ofA (.mv (.tmp 59)))⟩
  .done)))))))))
 (.seq (.seq (.tree (.seq ⟨some 60, none, (.ofA (.mv (.tmp 6)))⟩
  (.seq ⟨some 61, none, (.ofA (.bin .neq (.tmp 60) (.cst (.v (.int .i64 0)))))⟩
  (.seq ⟨some 62, none, (.ofA (.mv (.tmp 61)))⟩
  (.seq ⟨some 63, some (62, false), (.ofA (.mv (.tmp 0)))⟩
  (.seq ⟨some 64, some (62, false), (.ofA (.nilc (.tmp 63)))⟩
  (.seq ⟨some 65, some (62, false), (.ofA (.faddr 1 (.tmp 64)))⟩
  (.seq ⟨some 66, some (62, false), (.ofA (.load none (.tmp 65)))⟩
  (.seq ⟨some 67, some (62, false), (.call (.cst (.fn 99 [])) [(.tmp 66)])⟩
  (.seq ⟨some 68, none, (.ofA (.pick (.tmp 62) (.cst (.v (.bool true))) (.tmp 67)))⟩
  .done))))))))))
 (.cond (.tmp 68)
 (.seq (.tree (.seq ⟨some 69, none, (.ofA (.mv (.tmp 0)))⟩
  (.seq ⟨some 70, none, (.ofA (.nilc (.tmp 69)))⟩
  (.seq ⟨some 71, none, (.ofA (.faddr 1 (.tmp 70)))⟩
  (.seq ⟨some 72, none, (.ofA (.load none (.tmp 71)))⟩
  (.seq ⟨some 73, none, (.call (.cst (.fn 72 [])) [(.tmp 72)])⟩
  .done))))))
 (.seq (.tree (.seq ⟨some 4, none, (.ofA (.mv (.cst (.v (.int .i64 12)))))⟩
  .done))
 .ret))
 .skip))
 (.seq (.tree (.seq ⟨some 74, none, (.ofA (.mv (.tmp 0)))⟩
  (.seq ⟨some 75, none, (.ofA (.nilc (.tmp 74)))⟩
  (.seq ⟨some 76, none, (.ofA (.faddr 1 (.tmp 75)))⟩
  (.seq ⟨some 77, none, (.ofA (.load none (.tmp 76)))⟩
  (.seq ⟨some 78, none, (.call (.cst (.fn 74 [])) [(.tmp 77), (.cst (.v (.int .i64 (-1))))])⟩
  .done))))))
 (.seq (.tree (.seq ⟨some 79, none, (.ofA (.mv (.tmp 0)))⟩
  (.seq ⟨some 80, none, (.ofA (.mv (.tmp 0)))⟩
  (.seq ⟨some 81, none, (.ofA (.load (some 22) (.tmp 5)))⟩
  (.seq ⟨some 82, none, (.ofA (.nilc (.tmp 79)))⟩
  (.seq ⟨some 83, none, (.ofA (.faddr 3 (.tmp 82)))⟩
  (.seq ⟨none, none, (.store 22 (.tmp 83) (.tmp 81))⟩
  (.seq ⟨some 84, none, (.ofA (.nilc (.tmp 80)))⟩
  (.seq ⟨some 85, none, (.ofA (.faddr 34 (.tmp 84)))⟩
  (.seq ⟨none, none, (.store 1 (.tmp 85) (.cst (.v (.bool true))))⟩
  .done))))))))))
 (.seq (.seq (.tree (.seq ⟨some 86, none, (.ofA (.mv (.cst (.v (.int .i64 0)))))⟩
  .done))
 (.block 3 (.loop (.seq (.tree (.seq ⟨some 87, none, (.ofA (.bin .lss (.tmp 86) (.cst (.v (.int .i64 4)))))⟩
  .done))
 (.seq (.cond (.tmp 87)
 .skip
 (.exit 3))
 (.seq (.block 4 (.seq (.tree (.seq ⟨some 88, none, (.ofA (.mv (.tmp 86)))⟩
  (.seq ⟨some 9, none, (.ofA (.mv (.tmp 88)))⟩
  .done)))
 (.tree (.take ⟨some 89, none, (.ofA (.mv (.tmp 0)))⟩
  (.take ⟨some 90, none, (.ofA (.mv (.tmp 9)))⟩
  (.take ⟨some 91, none, (.ofA (.mv (.tmp 9)))⟩
  (.take ⟨some 92, none, (.ofA (.iarr 4 1 (.tmp 7) (.tmp 91)))⟩
  (.take ⟨some 93, none, (.ofA (.load none (.tmp 92)))⟩
  (.take ⟨some 94, none, (.ofA (.nilc (.tmp 89)))⟩
  (.take ⟨some 95, none, (.ofA (.faddr 25 (.tmp 94)))⟩
  (.take ⟨some 96, none, (.ofA (.iarr 4 2 (.tmp 95) (.tmp 90)))⟩
  (.take ⟨some 97, none, (.ofA (.faddr 0 (.tmp 96)))⟩
  (.alt [false] [(⟨none, none, (.store 1 (.tmp 97) (.tmp 93))⟩,
 .done)])))))))))))))
 (.tree (.seq ⟨some 98, none, (.ofA (.bin .add (.tmp 86) (.cst (.v (.int .i64 1)))))⟩
  (.seq ⟨some 86, none, (.ofA (.mv (.tmp 98)))⟩
  .done)))))))))
 (.seq (.tree (.seq ⟨some 4, none, (.ofA (.mv (.cst (.v (.int .i64 0)))))⟩
  .done))
 .ret)))))))))))
def r34 : List XR := [.tmp 4]
theorem fn34 : FnX Tryz.prog 34 EFF 99 x34 r34 := ⟨_, Tryz.func34, by kernel_rfl, by kernel_rfl, by kernel_rfl, by kernel_rfl⟩
-- (*almshouse/house.House).Slot (1 parameters)
def x35 : XC := (.seq (.tree (.seq ⟨some 2, none, (.ofA (.mv (.cst (.v (.bool false)))))⟩
  .done))
 (.seq (.seq (.tree (.seq ⟨some 9, none, (.ofA (.mv (.tmp 0)))⟩
  (.seq ⟨some 10, none, (.call (.cst (.fn 36 [])) [(.tmp 9)])⟩
  (.seq ⟨some 11, none, (.ofA (.un .not (.tmp 10)))⟩
  .done))))
 (.cond (.tmp 11)
 (.seq (.tree (.seq ⟨some 2, none, (.ofA (.mv (.cst (.v (.bool false)))))⟩
  .done))
 .ret)
 .skip))
 (.seq (.tree (.seq ⟨some 12, none, (.ofA (.mv (.tmp 0)))⟩
  (.seq ⟨some 13, none, (.ofA (.nilc (.tmp 12)))⟩
  (.seq ⟨some 14, none, (.ofA (.faddr 33 (.tmp 13)))⟩
  (.seq ⟨some 15, none, (.ofA (.load none (.tmp 14)))⟩
  (.seq ⟨some 3, none, (.ofA (.mv (.tmp 15)))⟩
  .done))))))
 (.seq (.tree (.seq ⟨some 16, none, (.ofA (.mv (.tmp 0)))⟩
  (.seq ⟨some 17, none, (.ofA (.nilc (.tmp 16)))⟩
  (.seq ⟨some 18, none, (.ofA (.faddr 33 (.tmp 17)))⟩
  (.seq ⟨some 19, none, (.ofA (.load none (.tmp 18)))⟩
  (.seq ⟨some 20, none, (.ofA (.bin .add (.tmp 19) (.cst (.v (.int .i64 1)))))⟩
  (.seq ⟨some 21, none, (.ofA (.nilc (.tmp 16)))⟩
  (.seq ⟨some 22, none, (.ofA (.faddr 33 (.tmp 21)))⟩
  (.seq ⟨none, none, (.store 1 (.tmp 22) (.tmp 20))⟩
  .done)))))))))
 (.seq (.tree (.seq ⟨some 23, none, (.ofA (.mv (.tmp 3)))⟩
  (.seq ⟨some 24, none, (.ofA (.bin .rem (.tmp 23) (.cst (.v (.int .i64 4)))))⟩
  (.seq ⟨some 4, none, (.ofA (.mv (.tmp 24)))⟩
  .done))))
 (.seq (.seq (.tree (.seq ⟨some 25, none, (.ofA (.mv (.tmp 0)))⟩
  (.seq ⟨some 26, none, (.ofA (.mv (.tmp 4)))⟩
  (.seq ⟨some 27, none, (.call (.cst (.fn 75 [])) [(.tmp 25), (.tmp 26)])⟩
  (.seq ⟨some 28, none, (.ofA (.bin .neq (.tmp 27) (.cst (.v (.int .i64 0)))))⟩
  .done)))))
 (.cond (.tmp 28)
 (.seq (.tree (.seq ⟨some 2, none, (.ofA (.mv (.cst (.v (.bool false)))))⟩
  .done))
 .ret)
 .skip))
 (.seq (.tree (.seq ⟨some 30, none, (.ofA (.mv (.tmp 0)))⟩
  (.seq ⟨some 31, none, (.ofA (.mv (.tmp 4)))⟩
  (.seq ⟨some 32, none, (.ofA (.nilc (.tmp 30)))⟩
  (.seq ⟨some 33, none, (.ofA (.faddr 25 (.tmp 32)))⟩
  (.seq ⟨some 34, none, (.ofA (.iarr 4 2 (.tmp 33) (.tmp 31)))⟩
  (.seq ⟨some 35, none, (.ofA (.faddr 1 (.tmp 34)))⟩
  (.seq ⟨some 36, none, (.ofA (.load none (.tmp 35)))⟩
  (.seq ⟨some 37, none, (.call (.cst (.fn 100 [])) [(.tmp 36)])⟩
  (.seq ⟨some 29, none, (.ofA (.mv (.tmp 37)))⟩
  (.seq ⟨some 38, none, (.ofA (.extract 0 (.tmp 29)))⟩
  (.seq ⟨some 39, none, (.ofA (.extract 1 (.tmp 29)))⟩
  (.seq ⟨some 5, none, (.alloc [(.v (.int .i64 0)), (.v (.int .i64 0)), (.v (.string ⟨#[]⟩))])⟩
  (.seq ⟨none, none, (.store 3 (.tmp 5) (.tmp 38))⟩
  (.seq ⟨some 6, none, (.ofA (.mv (.tmp 39)))⟩
  .done)))))))))))))))
 (.seq (.seq (.tree (.seq ⟨some 40, none, (.ofA (.mv (.tmp 6)))⟩
  (.seq ⟨some 41, none, (.ofA (.un .not (.tmp 40)))⟩
  .done)))
 (.cond (.tmp 41)
 (.seq (.tree (.seq ⟨some 2, none, (.ofA (.mv (.cst (.v (.bool false)))))⟩
  .done))
 .ret)
 .skip))
 (.seq (.tree (.take ⟨some 43, none, (.ofA (.mv (.tmp 0)))⟩
  (.take ⟨some 44, none, (.ofA (.mv (.tmp 4)))⟩
  (.take ⟨some 45, none, (.ofA (.nilc (.tmp 43)))⟩
  (.take ⟨some 46, none, (.ofA (.faddr 25 (.tmp 45)))⟩
  (.take ⟨some 47, none, (.ofA (.iarr 4 2 (.tmp 46) (.tmp 44)))⟩
  (.take ⟨some 48, none, (.ofA (.faddr 0 (.tmp 47)))⟩
  (.take ⟨some 49, none, (.ofA (.load none (.tmp 48)))⟩
  (.take ⟨some 50, none, (.ofA (.load (some 3) (.tmp 5)))⟩
  (.alt [false] [(⟨some 51, none, (.call (.cst (.fn 101 [])) [(.tmp 49), (.tmp 50)])⟩,
 (.take ⟨some 42, none, (.ofA (.mv (.tmp 51)))⟩
  (.take ⟨some 52, none, (.ofA (.extract 0 (.tmp 42)))⟩
  (.take ⟨some 53, none, (.ofA (.extract 1 (.tmp 42)))⟩
  (.take ⟨some 7, none, (.ofA (.mv (.tmp 52)))⟩
  (.take ⟨some 8, none, (.ofA (.mv (.tmp 53)))⟩
  .done))))))]))))))))))
 (.seq (.seq (.tree (.seq ⟨some 54, none, (.ofA (.mv (.tmp 8)))⟩
  (.seq ⟨some 55, none, (.ofA (.bin .neq (.tmp 54) (.cst (.v (.int .i64 12)))))⟩
  .done)))
 (.cond (.tmp 55)
 (.tree (.seq ⟨some 56, none, (.ofA (.mv (.tmp 0)))⟩
  (.seq ⟨some 57, none, (.ofA (.mv (.tmp 4)))⟩
  (.seq ⟨some 58, none, (.ofA (.nilc (.tmp 56)))⟩
  (.seq ⟨some 59, none, (.ofA (.faddr 25 (.tmp 58)))⟩
  (.seq ⟨some 60, none, (.ofA (.iarr 4 2 (.tmp 59) (.tmp 57)))⟩
  (.seq ⟨some 61, none, (.ofA (.faddr 1 (.tmp 60)))⟩
  (.seq ⟨some 62, none, (.ofA (.load none (.tmp 61)))⟩
  (.seq ⟨some 63, none, (.ofA (.mv (.tmp 3)))⟩
  (.seq ⟨some 64, none, (.ofA (.mv (.tmp 8)))⟩
  (.seq ⟨some 65, none, (.ofA (.mv (.tmp 7)))⟩
  (.seq ⟨some 66, none, (.build [(.v (.int .i64 0)), (.v (.int .i64 0)), (.v (.string ⟨#[]⟩))] [(0, 1, (.tmp 63)), (1, 1, (.tmp 64)), (2, 1, (.tmp 65))])⟩
  (.seq ⟨some 67, none, (.call (.cst (.fn 102 [])) [(.tmp 62), (.tmp 66)])⟩
  .done)))))))))))))
 .skip))
 (.seq (.tree (.seq ⟨some 68, none, (.ofA (.mv (.tmp 0)))⟩
  (.seq ⟨some 69, none, (.call (.cst (.fn 73 [])) [(.tmp 68)])⟩
  .done)))
 (.seq (.tree (.seq ⟨some 70, none, (.ofA (.mv (.tmp 8)))⟩
  (.seq ⟨some 71, none, (.ofA (.bin .neq (.tmp 70) (.cst (.v (.int .i64 12)))))⟩
  (.seq ⟨some 2, none, (.ofA (.mv (.tmp 71)))⟩
  .done))))
 .ret))))))))))))
def r35 : List XR := [.tmp 2]
theorem fn35 : FnX Tryz.prog 35 EFF 72 x35 r35 := ⟨_, Tryz.func35, by kernel_rfl, by kernel_rfl, by kernel_rfl, by kernel_rfl⟩
-- (*almshouse/house.House).Up (1 parameters)
def x36 : XC := (.seq (.tree (.seq ⟨some 2, none, (.ofA (.mv (.cst (.v (.bool false)))))⟩
  .done))
 (.seq (.tree (.seq ⟨some 3, none, (.ofA (.mv (.tmp 0)))⟩
  (.seq ⟨some 4, none, (.ofA (.eqn true 1 (.tmp 3) (.cst (.v (.pointer none)))))⟩
  (.seq ⟨some 5, none, (.ofA (.mv (.tmp 4)))⟩
  (.seq ⟨some 6, some (5, true), (.ofA (.mv (.tmp 0)))⟩
  (.seq ⟨some 7, some (5, true), (.ofA (.nilc (.tmp 6)))⟩
  (.seq ⟨some 8, some (5, true), (.ofA (.faddr 34 (.tmp 7)))⟩
  (.seq ⟨some 9, some (5, true), (.ofA (.load none (.tmp 8)))⟩
  (.seq ⟨some 10, none, (.ofA (.pick (.tmp 5) (.tmp 9) (.cst (.v (.bool false)))))⟩
  (.seq ⟨some 2, none, (.ofA (.mv (.tmp 10)))⟩
  .done))))))))))
 .ret))
def r36 : List XR := [.tmp 2]
theorem fn36 : FnX Tryz.prog 36 EFF 11 x36 r36 := ⟨_, Tryz.func36, by kernel_rfl, by kernel_rfl, by kernel_rfl, by kernel_rfl⟩
-- (*almshouse/house.House).Slots (1 parameters)
def x37 : XC := (.seq (.tree (.seq ⟨some 2, none, (.ofA (.mv (.cst (.v (.int .i64 0)))))⟩
  .done))
 (.seq (.seq (.tree (.seq ⟨some 3, none, (.ofA (.mv (.tmp 0)))⟩
  (.seq ⟨some 4, none, (.ofA (.eqn false 1 (.tmp 3) (.cst (.v (.pointer none)))))⟩
  .done)))
 (.cond (.tmp 4)
 (.seq (.tree (.seq ⟨some 2, none, (.ofA (.mv (.cst (.v (.int .i64 0)))))⟩
  .done))
 .ret)
 .skip))
 (.seq (.tree (.seq ⟨some 5, none, (.ofA (.mv (.tmp 0)))⟩
  (.seq ⟨some 6, none, (.ofA (.nilc (.tmp 5)))⟩
  (.seq ⟨some 7, none, (.ofA (.faddr 33 (.tmp 6)))⟩
  (.seq ⟨some 8, none, (.ofA (.load none (.tmp 7)))⟩
  (.seq ⟨some 2, none, (.ofA (.mv (.tmp 8)))⟩
  .done))))))
 .ret)))
def r37 : List XR := [.tmp 2]
theorem fn37 : FnX Tryz.prog 37 EFF 9 x37 r37 := ⟨_, Tryz.func37, by kernel_rfl, by kernel_rfl, by kernel_rfl, by kernel_rfl⟩
-- (*almshouse/house.House).Ops (1 parameters)
def x38 : XC := (.seq (.tree (.seq ⟨some 2, none, (.ofA (.mv (.cst (.v (.int .i64 0)))))⟩
  .done))
 (.seq (.seq (.tree (.seq ⟨some 3, none, (.ofA (.mv (.tmp 0)))⟩
  (.seq ⟨some 4, none, (.ofA (.eqn false 1 (.tmp 3) (.cst (.v (.pointer none)))))⟩
  .done)))
 (.cond (.tmp 4)
 (.seq (.tree (.seq ⟨some 2, none, (.ofA (.mv (.cst (.v (.int .i64 0)))))⟩
  .done))
 .ret)
 .skip))
 (.seq (.tree (.seq ⟨some 5, none, (.ofA (.mv (.tmp 0)))⟩
  (.seq ⟨some 6, none, (.ofA (.nilc (.tmp 5)))⟩
  (.seq ⟨some 7, none, (.ofA (.faddr 1 (.tmp 6)))⟩
  (.seq ⟨some 8, none, (.ofA (.load none (.tmp 7)))⟩
  (.seq ⟨some 9, none, (.call (.cst (.fn 103 [])) [(.tmp 8)])⟩
  (.seq ⟨some 2, none, (.ofA (.mv (.tmp 9)))⟩
  .done)))))))
 .ret)))
def r38 : List XR := [.tmp 2]
theorem fn38 : FnX Tryz.prog 38 EFF 10 x38 r38 := ⟨_, Tryz.func38, by kernel_rfl, by kernel_rfl, by kernel_rfl, by kernel_rfl⟩
-- (*almshouse/house.House).Done (2 parameters)
def x39 : XC := (.seq (.tree (.seq ⟨some 4, none, (.ofA (.mv (.cst (.v (.slice none 0 0)))))⟩
  .done))
 (.seq (.seq (.tree (.seq ⟨some 5, none, (.ofA (.mv (.tmp 0)))⟩
  (.seq ⟨some 6, none, (.ofA (.eqn false 1 (.tmp 5) (.cst (.v (.pointer none)))))⟩
  (.seq ⟨some 7, none, (.ofA (.mv (.tmp 6)))⟩
  (.seq ⟨some 8, some (7, false), (.ofA (.mv (.tmp 1)))⟩
  (.seq ⟨some 9, some (7, false), (.ofA (.bin .lss (.tmp 8) (.cst (.v (.int .i64 0)))))⟩
  (.seq ⟨some 10, none, (.ofA (.pick (.tmp 7) (.cst (.v (.bool true))) (.tmp 9)))⟩
  (.seq ⟨some 11, none, (.ofA (.mv (.tmp 10)))⟩
  (.seq ⟨some 12, some (11, false), (.ofA (.mv (.tmp 1)))⟩
  (.seq ⟨some 13, some (11, false), (.ofA (.bin .geq (.tmp 12) (.cst (.v (.int .i64 4)))))⟩
  (.seq ⟨some 14, none, (.ofA (.pick (.tmp 11) (.cst (.v (.bool true))) (.tmp 13)))⟩
  .done)))))))))))
 (.cond (.tmp 14)
 (.seq (.tree (.seq ⟨some 4, none, (.ofA (.mv (.cst (.v (.slice none 0 0)))))⟩
  .done))
 .ret)
 .skip))
 (.seq (.tree (.seq ⟨some 15, none, (.ofA (.mv (.tmp 0)))⟩
  (.seq ⟨some 16, none, (.ofA (.mv (.tmp 1)))⟩
  (.seq ⟨some 17, none, (.ofA (.nilc (.tmp 15)))⟩
  (.seq ⟨some 18, none, (.ofA (.faddr 25 (.tmp 17)))⟩
  (.seq ⟨some 19, none, (.ofA (.iarr 4 2 (.tmp 18) (.tmp 16)))⟩
  (.seq ⟨some 20, none, (.ofA (.faddr 1 (.tmp 19)))⟩
  (.seq ⟨some 21, none, (.ofA (.load none (.tmp 20)))⟩
  (.seq ⟨some 22, none, (.call (.cst (.fn 104 [])) [(.tmp 21)])⟩
  (.seq ⟨some 4, none, (.ofA (.mv (.tmp 22)))⟩
  .done))))))))))
 .ret)))
def r39 : List XR := [.tmp 4]
theorem fn39 : FnX Tryz.prog 39 EFF 23 x39 r39 := ⟨_, Tryz.func39, by kernel_rfl, by kernel_rfl, by kernel_rfl, by kernel_rfl⟩
-- (*almshouse/house.House).Array (1 parameters)
def x40 : XC := (.seq (.tree (.seq ⟨some 2, none, (.ofA (.mv (.cst (.v (.pointer none)))))⟩
  .done))
 (.seq (.seq (.tree (.seq ⟨some 3, none, (.ofA (.mv (.tmp 0)))⟩
  (.seq ⟨some 4, none, (.ofA (.eqn false 1 (.tmp 3) (.cst (.v (.pointer none)))))⟩
  .done)))
 (.cond (.tmp 4)
 (.seq (.tree (.seq ⟨some 2, none, (.ofA (.mv (.cst (.v (.pointer none)))))⟩
  .done))
 .ret)
 .skip))
 (.seq (.tree (.seq ⟨some 5, none, (.ofA (.mv (.tmp 0)))⟩
  (.seq ⟨some 6, none, (.ofA (.nilc (.tmp 5)))⟩
  (.seq ⟨some 7, none, (.ofA (.faddr 0 (.tmp 6)))⟩
  (.seq ⟨some 8, none, (.ofA (.load none (.tmp 7)))⟩
  (.seq ⟨some 2, none, (.ofA (.mv (.tmp 8)))⟩
  .done))))))
 .ret)))
def r40 : List XR := [.tmp 2]
theorem fn40 : FnX Tryz.prog 40 EFF 9 x40 r40 := ⟨_, Tryz.func40, by kernel_rfl, by kernel_rfl, by kernel_rfl, by kernel_rfl⟩
-- almshouse/almshouseref10.Same (2 parameters)
def x41 : XC := (.seq (.tree (.seq ⟨some 2, none, (.box (.tmp 0))⟩
  (.seq ⟨some 3, none, (.box (.tmp 1))⟩
  (.seq ⟨some 4, none, (.ofA (.mv (.cst (.v (.bool false)))))⟩
  .done))))
 (.seq (.seq (.tree (.seq ⟨some 9, none, (.ofA (.faddr 0 (.tmp 2)))⟩
  (.seq ⟨some 10, none, (.ofA (.load none (.tmp 9)))⟩
  (.seq ⟨some 11, none, (.ofA (.faddr 0 (.tmp 3)))⟩
  (.seq ⟨some 12, none, (.ofA (.load none (.tmp 11)))⟩
  (.seq ⟨some 13, none, (.ofA (.bin .neq (.tmp 10) (.tmp 12)))⟩
  (.seq ⟨some 14, none, (.ofA (.mv (.tmp 13)))⟩
  (.seq ⟨some 15, some (14, false), (.ofA (.faddr 1 (.tmp 2)))⟩
  (.seq ⟨some 16, some (14, false), (.ofA (.load none (.tmp 15)))⟩
  (.seq ⟨some 17, some (14, false), (.ofA (.faddr 1 (.tmp 3)))⟩
  (.seq ⟨some 18, some (14, false), (.ofA (.load none (.tmp 17)))⟩
  (.seq ⟨some 19, some (14, false), (.ofA (.bin .neq (.tmp 16) (.tmp 18)))⟩
  (.seq ⟨some 20, none, (.ofA (.pick (.tmp 14) (.cst (.v (.bool true))) (.tmp 19)))⟩
  .done)))))))))))))
 (.cond (.tmp 20)
 (.seq (.tree (.seq ⟨some 4, none, (.ofA (.mv (.cst (.v (.bool false)))))⟩
  .done))
 .ret)
 .skip))
 (.seq (.seq (.tree (.seq ⟨some 21, none, (.ofA (.faddr 2 (.tmp 2)))⟩
  (.seq ⟨some 22, none, (.ofA (.load (some 20) (.tmp 21)))⟩
  (.seq ⟨some 23, none, (.ofA (.mv (.cst (.v (.int .i64 0)))))⟩
  .done))))
 (.block 0 (.loop (.seq (.tree (.seq ⟨some 24, none, (.ofA (.bin .lss (.tmp 23) (.cst (.v (.int .i64 4)))))⟩
  .done))
 (.seq (.cond (.tmp 24)
 .skip
 (.exit 0))
 (.seq (.block 1 (.seq (.tree (.seq ⟨some 25, none, (.ofA (.mv (.tmp 23)))⟩
  (.seq ⟨some 26, none, (.ofA (.idx 4 5 true (.tmp 22) (.tmp 23)))⟩
  (.seq ⟨some 6, none, (.alloc [(.v (.bool false)), (.v (.int .i64 0)), (.v (.int .i64 0)), (.v (.int .i64 0)), (.v (.slice none 0 0))])⟩
  (.seq ⟨some 5, none, (.ofA (.mv (.tmp 25)))⟩
  (.seq ⟨none, none, (.store 5 (.tmp 6) (.tmp 26))⟩
  .done))))))
 (.seq (.tree (.seq ⟨some 27, none, (.ofA (.mv (.tmp 5)))⟩
  (.seq ⟨some 28, none, (.ofA (.faddr 2 (.tmp 3)))⟩
  (.seq ⟨some 29, none, (.ofA (.iarr 4 5 (.tmp 28) (.tmp 27)))⟩
  (.seq ⟨some 30, none, (.ofA (.load (some 5) (.tmp 29)))⟩
  (.seq ⟨some 7, none, (.alloc [(.v (.bool false)), (.v (.int .i64 0)), (.v (.int .i64 0)), (.v (.int .i64 0)), (.v (.slice none 0 0))])⟩
  (.seq ⟨none, none, (.store 5 (.tmp 7) (.tmp 30))⟩
  .done)))))))
 (.seq (.seq (.tree (.seq ⟨some 31, none, (.ofA (.faddr 0 (.tmp 6)))⟩
  (.seq ⟨some 32, none, (.ofA (.load none (.tmp 31)))⟩
  (.seq ⟨some 33, none, (.ofA (.faddr 0 (.tmp 7)))⟩
  (.seq ⟨some 34, none, (.ofA (.load none (.tmp 33)))⟩
  (.seq ⟨some 35, none, (.ofA (.eqb true (.tmp 32) (.tmp 34)))⟩
  (.seq ⟨some 36, none, (.ofA (.mv (.tmp 35)))⟩
  (.seq ⟨some 37, some (36, false), (.ofA (.faddr 1 (.tmp 6)))⟩
  (.seq ⟨some 38, some (36, false), (.ofA (.load none (.tmp 37)))⟩
  (.seq ⟨some 39, some (36, false), (.ofA (.faddr 1 (.tmp 7)))⟩
  (.seq ⟨some 40, some (36, false), (.ofA (.load none (.tmp 39)))⟩
  (.seq ⟨some 41, some (36, false), (.ofA (.bin .neq (.tmp 38) (.tmp 40)))⟩
  (.seq ⟨some 42, none, (.ofA (.pick (.tmp 36) (.cst (.v (.bool true))) (.tmp 41)))⟩
  (.seq ⟨some 43, none, (.ofA (.mv (.tmp 42)))⟩
  (.seq ⟨some 44, some (43, false), (.ofA (.faddr 2 (.tmp 6)))⟩
  (.seq ⟨some 45, some (43, false), (.ofA (.load none (.tmp 44)))⟩
  (.seq ⟨some 46, some (43, false), (.ofA (.faddr 2 (.tmp 7)))⟩
  (.seq ⟨some 47, some (43, false), (.ofA (.load none (.tmp 46)))⟩
  (.seq ⟨some 48, some (43, false), (.ofA (.bin .neq (.tmp 45) (.tmp 47)))⟩
  (.seq ⟨some 49, none, (.ofA (.pick (.tmp 43) (.cst (.v (.bool true))) (.tmp 48)))⟩
  (.seq ⟨some 50, none, (.ofA (.mv (.tmp 49)))⟩
  (.seq ⟨some 51, some (50, false), (.ofA (.faddr 3 (.tmp 6)))⟩
  (.seq ⟨some 52, some (50, false), (.ofA (.load none (.tmp 51)))⟩
  (.seq ⟨some 53, some (50, false), (.ofA (.faddr 3 (.tmp 7)))⟩
  (.seq ⟨some 54, some (50, false), (.ofA (.load none (.tmp 53)))⟩
  (.seq ⟨some 55, some (50, false), (.ofA (.bin .neq (.tmp 52) (.tmp 54)))⟩
  (.seq ⟨some 56, none, (.ofA (.pick (.tmp 50) (.cst (.v (.bool true))) (.tmp 55)))⟩
  (.seq ⟨some 57, none, (.ofA (.mv (.tmp 56)))⟩
  (.seq ⟨some 58, some (57, false), (.ofA (.faddr 4 (.tmp 6)))⟩
  (.seq ⟨some 59, some (57, false), (.ofA (.load none (.tmp 58)))⟩
  (.seq ⟨some 60, some (57, false), (.ofA (.len (.tmp 59)))⟩
  (.seq ⟨some 61, some (57, false), (.ofA (.faddr 4 (.tmp 7)))⟩
  (.seq ⟨some 62, some (57, false), (.ofA (.load none (.tmp 61)))⟩
  (.seq ⟨some 63, some (57, false), (.ofA (.len (.tmp 62)))⟩
  (.seq ⟨some 64, some (57, false), (.ofA (.bin .neq (.tmp 60) (.tmp 63)))⟩
  (.seq ⟨some 65, none, (.ofA (.pick (.tmp 57) (.cst (.v (.bool true))) (.tmp 64)))⟩
  .done))))))))))))))))))))))))))))))))))))
 (.cond (.tmp 65)
 (.seq (.tree (.seq ⟨some 4, none, (.ofA (.mv (.cst (.v (.bool false)))))⟩
  .done))
 .ret)
 .skip))
 (.seq (.tree (.seq ⟨some 66, none, (.ofA (.faddr 4 (.tmp 6)))⟩
  (.seq ⟨some 67, none, (.ofA (.load none (.tmp 66)))⟩
  (.seq ⟨some 68, none, (.ofA (.len (.tmp 67)))⟩
  (.seq ⟨some 69, none, (.ofA (.mv (.cst (.v (.int .i64 0)))))⟩
  .done)))))
 (.block 2 (.loop (.seq (.tree (.seq ⟨some 70, none, (.ofA (.bin .lss (.tmp 69) (.tmp 68)))⟩
  .done))
 (.seq (.cond (.tmp 70)
 .skip
 (.exit 2))
 (.seq (.block 3 (.seq (.tree (.seq ⟨some 71, none, (.ofA (.mv (.tmp 69)))⟩
  (.seq ⟨some 8, none, (.ofA (.mv (.tmp 71)))⟩
  .done)))
 (.seq (.tree (.take ⟨some 72, none, (.ofA (.faddr 4 (.tmp 6)))⟩
  (.take ⟨some 73, none, (.ofA (.load none (.tmp 72)))⟩
  (.take ⟨some 74, none, (.ofA (.mv (.tmp 8)))⟩
  (.take ⟨some 75, none, (.ofA (.isl 1 (.tmp 73) (.tmp 74)))⟩
  (.take ⟨some 76, none, (.ofA (.load none (.tmp 75)))⟩
  (.take ⟨some 77, none, (.ofA (.faddr 4 (.tmp 7)))⟩
  (.take ⟨some 78, none, (.ofA (.load none (.tmp 77)))⟩
  (.take ⟨some 79, none, (.ofA (.mv (.tmp 8)))⟩
  (.take ⟨some 80, none, (.ofA (.isl 1 (.tmp 78) (.tmp 79)))⟩
  (.take ⟨some 81, none, (.ofA (.load none (.tmp 80)))⟩
  (.take ⟨some 82, none, (.ofA (.bin .neq (.tmp 76) (.tmp 81)))⟩
  .done))))))))))))
 (.cond (.tmp 82)
 (.seq (.tree (.seq ⟨some 4, none, (.ofA (.mv (.cst (.v (.bool false)))))⟩
  .done))
 .ret)
 .skip))))
 (.tree (.seq ⟨some 83, none, (.ofA (.bin .add (.tmp 69) (.cst (.v (.int .i64 1)))))⟩
  (.seq ⟨some 69, none, (.ofA (.mv (.tmp 83)))⟩
  .done)))))))))))))
 (.tree (.seq ⟨some 84, none, (.ofA (.bin .add (.tmp 23) (.cst (.v (.int .i64 1)))))⟩
  (.seq ⟨some 23, none, (.ofA (.mv (.tmp 84)))⟩
  .done)))))))))
 (.seq (.tree (.seq ⟨some 4, none, (.ofA (.mv (.cst (.v (.bool true)))))⟩
  .done))
 .ret))))
def r41 : List XR := [.tmp 4]
theorem fn41 : FnX Tryz.prog 41 EFF 85 x41 r41 := ⟨_, Tryz.func41, by kernel_rfl, by kernel_rfl, by kernel_rfl, by kernel_rfl⟩
-- (*almshouse/house.House).Ledger (1 parameters)
def x42 : XC := (.seq (.tree (.seq ⟨some 2, none, (.alloc [(.v (.int .i64 0)), (.v (.int .i64 0)), (.v (.bool false)), (.v (.int .i64 0)), (.v (.int .i64 0)), (.v (.int .i64 0)), (.v (.slice none 0 0)), (.v (.bool false)), (.v (.int .i64 0)), (.v (.int .i64 0)), (.v (.int .i64 0)), (.v (.slice none 0 0)), (.v (.bool false)), (.v (.int .i64 0)), (.v (.int .i64 0)), (.v (.int .i64 0)), (.v (.slice none 0 0)), (.v (.bool false)), (.v (.int .i64 0)), (.v (.int .i64 0)), (.v (.int .i64 0)), (.v (.slice none 0 0))])⟩
  .done))
 (.seq (.seq (.tree (.seq ⟨some 3, none, (.ofA (.mv (.tmp 0)))⟩
  (.seq ⟨some 4, none, (.ofA (.eqn false 1 (.tmp 3) (.cst (.v (.pointer none)))))⟩
  .done)))
 (.cond (.tmp 4)
 (.seq (.tree (.seq ⟨some 5, none, (.build [(.v (.int .i64 0)), (.v (.int .i64 0)), (.v (.bool false)), (.v (.int .i64 0)), (.v (.int .i64 0)), (.v (.int .i64 0)), (.v (.slice none 0 0)), (.v (.bool false)), (.v (.int .i64 0)), (.v (.int .i64 0)), (.v (.int .i64 0)), (.v (.slice none 0 0)), (.v (.bool false)), (.v (.int .i64 0)), (.v (.int .i64 0)), (.v (.int .i64 0)), (.v (.slice none 0 0)), (.v (.bool false)), (.v (.int .i64 0)), (.v (.int .i64 0)), (.v (.int .i64 0)), (.v (.slice none 0 0))] [])⟩
  (.seq ⟨none, none, (.store 22 (.tmp 2) (.tmp 5))⟩
  .done)))
 .ret)
 .skip))
 (.seq (.tree (.seq ⟨some 6, none, (.ofA (.mv (.tmp 0)))⟩
  (.seq ⟨some 7, none, (.ofA (.nilc (.tmp 6)))⟩
  (.seq ⟨some 8, none, (.ofA (.faddr 3 (.tmp 7)))⟩
  (.seq ⟨some 9, none, (.ofA (.load (some 22) (.tmp 8)))⟩
  (.seq ⟨some 10, none, (.call (.cst (.fn 105 [])) [(.tmp 9)])⟩
  (.seq ⟨none, none, (.store 22 (.tmp 2) (.tmp 10))⟩
  .done)))))))
 .ret)))
def r42 : List XR := [.cell 2 (some 22)]
theorem fn42 : FnX Tryz.prog 42 EFF 11 x42 r42 := ⟨_, Tryz.func42, by kernel_rfl, by kernel_rfl, by kernel_rfl, by kernel_rfl⟩
-- (*almshouse/store.Store).place (2 parameters)
def x47 : XC := (.seq (.tree (.seq ⟨some 4, none, (.ofA (.mv (.cst (.v (.int .i64 0)))))⟩
  .done))
 (.seq (.block 0 (.seq (.tree (.seq ⟨some 6, none, (.ofA (.mv (.tmp 0)))⟩
  (.seq ⟨some 7, none, (.ofA (.eqn false 1 (.tmp 6) (.cst (.v (.pointer none)))))⟩
  (.seq ⟨some 5, none, (.ofA (.mv (.tmp 7)))⟩
  .done))))
 (.cond (.tmp 5)
 (.seq (.tree (.seq ⟨some 4, none, (.ofA (.mv (.cst (.v (.int .i64 1)))))⟩
  .done))
 .ret)
 (.seq (.tree (.seq ⟨some 9, none, (.ofA (.mv (.tmp 1)))⟩
  (.seq ⟨some 10, none, (.ofA (.bin .lss (.tmp 9) (.cst (.v (.int .i64 0)))))⟩
  (.seq ⟨some 11, none, (.ofA (.mv (.tmp 10)))⟩
  (.seq ⟨some 12, some (11, false), (.ofA (.mv (.tmp 1)))⟩
  (.seq ⟨some 13, some (11, false), (.ofA (.mv (.tmp 0)))⟩
  (.seq ⟨some 14, some (11, false), (.ofA (.nilc (.tmp 13)))⟩
  (.seq ⟨some 15, some (11, false), (.ofA (.faddr 2 (.tmp 14)))⟩
  (.seq ⟨some 16, some (11, false), (.ofA (.faddr 2 (.tmp 15)))⟩
  (.seq ⟨some 17, some (11, false), (.ofA (.load none (.tmp 16)))⟩
  (.seq ⟨some 18, some (11, false), (.ofA (.bin .geq (.tmp 12) (.tmp 17)))⟩
  (.seq ⟨some 19, none, (.ofA (.pick (.tmp 11) (.cst (.v (.bool true))) (.tmp 18)))⟩
  (.seq ⟨some 8, none, (.ofA (.mv (.tmp 19)))⟩
  .done)))))))))))))
 (.cond (.tmp 8)
 (.seq (.tree (.seq ⟨some 4, none, (.ofA (.mv (.cst (.v (.int .i64 5)))))⟩
  .done))
 .ret)
 .skip)))))
 (.seq (.tree (.seq ⟨some 4, none, (.ofA (.mv (.cst (.v (.int .i64 0)))))⟩
  .done))
 .ret)))
def r47 : List XR := [.tmp 4]
theorem fn47 : FnX Tryz.prog 47 EFF 20 x47 r47 := ⟨_, Tryz.func47, by kernel_rfl, by kernel_rfl, by kernel_rfl, by kernel_rfl⟩
-- (*almshouse/buffer.Buffer).Last (2 parameters)
def x48 : XC := (.seq (.tree (.seq ⟨some 4, none, (.alloc [(.v (.int .i64 0)), (.v (.int .i64 0)), (.v (.string ⟨#[]⟩))])⟩
  (.seq ⟨some 5, none, (.ofA (.mv (.cst (.v (.bool false)))))⟩
  .done)))
 (.seq (.seq (.tree (.seq ⟨some 8, none, (.ofA (.mv (.tmp 0)))⟩
  (.seq ⟨some 9, none, (.call (.cst (.fn 58 [])) [(.tmp 8)])⟩
  (.seq ⟨some 10, none, (.ofA (.bin .sub (.tmp 9) (.cst (.v (.int .i64 1)))))⟩
  (.seq ⟨some 6, none, (.ofA (.mv (.tmp 10)))⟩
  .done)))))
 (.block 0 (.loop (.seq (.seq (.tree (.seq ⟨some 11, none, (.ofA (.mv (.tmp 6)))⟩
  (.seq ⟨some 12, none, (.ofA (.bin .geq (.tmp 11) (.cst (.v (.int .i64 0)))))⟩
  .done)))
 (.cond (.tmp 12)
 .skip
 (.exit 0)))
 (.seq (.block 1 (.seq (.tree (.seq ⟨some 15, none, (.ofA (.mv (.tmp 0)))⟩
  (.seq ⟨some 16, none, (.ofA (.mv (.tmp 6)))⟩
  (.seq ⟨some 17, none, (.call (.cst (.fn 118 [])) [(.tmp 15), (.tmp 16)])⟩
  (.seq ⟨some 18, none, (.ofA (.nilc (.tmp 17)))⟩
  (.seq ⟨some 19, none, (.ofA (.load (some 3) (.tmp 18)))⟩
  (.seq ⟨some 7, none, (.alloc [(.v (.int .i64 0)), (.v (.int .i64 0)), (.v (.string ⟨#[]⟩))])⟩
  (.seq ⟨none, none, (.store 3 (.tmp 7) (.tmp 19))⟩
  .done))))))))
 (.seq (.tree (.seq ⟨some 20, none, (.ofA (.faddr 0 (.tmp 7)))⟩
  (.seq ⟨some 21, none, (.ofA (.load none (.tmp 20)))⟩
  (.seq ⟨some 22, none, (.ofA (.mv (.tmp 1)))⟩
  (.seq ⟨some 23, none, (.ofA (.bin .eql (.tmp 21) (.tmp 22)))⟩
  .done)))))
 (.cond (.tmp 23)
 (.seq (.tree (.seq ⟨some 24, none, (.ofA (.load (some 3) (.tmp 7)))⟩
  (.seq ⟨none, none, (.store 3 (.tmp 4) (.tmp 24))⟩
  (.seq ⟨some 5, none, (.ofA (.mv (.cst (.v (.bool true)))))⟩
  .done))))
 .ret)
 .skip))))
 (.tree (.seq ⟨some 13, none, (.ofA (.mv (.tmp 6)))⟩
  (.seq ⟨some 14, none, (.ofA (.bin .sub (.tmp 13) (.cst (.v (.int .i64 1)))))⟩
  (.seq ⟨some 6, none, (.ofA (.mv (.tmp 14)))⟩
  .done)))))))))
 (.seq (.tree (.seq ⟨some 25, none, (.build [(.v (.int .i64 0)), (.v (.int .i64 0)), (.v (.string ⟨#[]⟩))] [])⟩
  (.seq ⟨none, none, (.store 3 (.tmp 4) (.tmp 25))⟩
  (.seq ⟨some 5, none, (.ofA (.mv (.cst (.v (.bool false)))))⟩
  .done))))
 .ret)))
def r48 : List XR := [.cell 4 (some 3), .tmp 5]
theorem fn48 : FnX Tryz.prog 48 EFF 26 x48 r48 := ⟨_, Tryz.func48, by kernel_rfl, by kernel_rfl, by kernel_rfl, by kernel_rfl⟩
-- (*almshouse/table.Table).Grow (2 parameters)
def x52 : XC := (.seq (.seq (.tree (.seq ⟨some 6, none, (.ofA (.mv (.tmp 0)))⟩
  (.seq ⟨some 7, none, (.ofA (.eqn false 1 (.tmp 6) (.cst (.v (.pointer none)))))⟩
  .done)))
 (.cond (.tmp 7)
 .ret
 .skip))
 (.seq (.tree (.seq ⟨some 8, none, (.ofA (.mv (.tmp 1)))⟩
  (.seq ⟨some 9, none, (.ofA (.mx true (.tmp 8) [(.cst (.v (.int .i64 0)))]))⟩
  (.seq ⟨some 10, none, (.ofA (.mv (.tmp 0)))⟩
  (.seq ⟨some 11, none, (.ofA (.nilc (.tmp 10)))⟩
  (.seq ⟨some 12, none, (.ofA (.faddr 194 (.tmp 11)))⟩
  (.seq ⟨some 13, none, (.ofA (.load none (.tmp 12)))⟩
  (.seq ⟨some 14, none, (.ofA (.len (.tmp 13)))⟩
  (.seq ⟨some 15, none, (.ofA (.bin .sub (.cst (.v (.int .i64 64))) (.tmp 14)))⟩
  (.seq ⟨some 16, none, (.ofA (.mx false (.tmp 9) [(.tmp 15)]))⟩
  (.seq ⟨some 17, none, (.ofA (.mv (.cst (.v (.int .i64 0)))))⟩
  .done)))))))))))
 (.block 0 (.loop (.seq (.tree (.seq ⟨some 18, none, (.ofA (.bin .lss (.tmp 17) (.tmp 16)))⟩
  .done))
 (.seq (.cond (.tmp 18)
 .skip
 (.exit 0))
 (.seq (.block 1 (.seq (.tree (.seq ⟨some 19, none, (.ofA (.mv (.tmp 0)))⟩
  (.seq ⟨some 20, none, (.ofA (.nilc (.tmp 19)))⟩
  (.seq ⟨some 21, none, (.ofA (.faddr 0 (.tmp 20)))⟩
  (.seq ⟨some 22, none, (.ofA (.load none (.tmp 21)))⟩
  (.seq ⟨some 23, none, (.mkSl 1 8 [(.v (.int .i64 0))] (.tmp 22) (.tmp 22))⟩
  (.seq ⟨some 4, none, (.ofA (.mv (.tmp 23)))⟩
  .done)))))))
 (.seq (.seq (.tree (.seq ⟨some 24, none, (.ofA (.mv (.tmp 4)))⟩
  (.seq ⟨some 25, none, (.ofA (.len (.tmp 24)))⟩
  (.seq ⟨some 26, none, (.ofA (.mv (.cst (.v (.int .i64 0)))))⟩
  .done))))
 (.block 2 (.loop (.seq (.tree (.seq ⟨some 27, none, (.ofA (.bin .lss (.tmp 26) (.tmp 25)))⟩
  .done))
 (.seq (.cond (.tmp 27)
 .skip
 (.exit 2))
 (.seq (.block 3 (.seq (.tree (.seq ⟨some 28, none, (.ofA (.mv (.tmp 26)))⟩
  (.seq ⟨some 5, none, (.ofA (.mv (.tmp 28)))⟩
  .done)))
 (.tree (.seq ⟨some 29, none, (.ofA (.mv (.tmp 4)))⟩
  (.seq ⟨some 30, none, (.ofA (.mv (.tmp 5)))⟩
  (.seq ⟨some 31, none, (.ofA (.isl 1 (.tmp 29) (.tmp 30)))⟩
  (.seq ⟨none, none, (.store 1 (.tmp 31) (.cst (.v (.int .i64 (-1)))))⟩
  .done)))))))
 (.tree (.seq ⟨some 32, none, (.ofA (.bin .add (.tmp 26) (.cst (.v (.int .i64 1)))))⟩
  (.seq ⟨some 26, none, (.ofA (.mv (.tmp 32)))⟩
  .done)))))))))
 (.seq (.tree (.seq ⟨some 33, none, (.ofA (.mv (.tmp 0)))⟩
  (.seq ⟨some 34, none, (.ofA (.mv (.tmp 0)))⟩
  (.seq ⟨some 35, none, (.ofA (.nilc (.tmp 34)))⟩
  (.seq ⟨some 36, none, (.ofA (.faddr 193 (.tmp 35)))⟩
  (.seq ⟨some 37, none, (.ofA (.load none (.tmp 36)))⟩
  (.seq ⟨some 38, none, (.ofA (.mv (.tmp 4)))⟩
  (.seq ⟨some 39, none, (.buildSl 1 1 [(.v (.slice none 0 0))] [(0, 1, (.tmp 38))])⟩
  (.seq ⟨some 40, none, (.app 1 24 (.tmp 37) (.tmp 39))⟩
  (.seq ⟨some 41, none, (.ofA (.nilc (.tmp 33)))⟩
  (.seq ⟨some 42, none, (.ofA (.faddr 193 (.tmp 41)))⟩
  (.seq ⟨none, none, (.store 1 (.tmp 42) (.tmp 40))⟩
  .done))))))))))))
 (.tree (.seq ⟨some 43, none, (.ofA (.mv (.tmp 0)))⟩
  (.seq ⟨some 44, none, (.ofA (.mv (.tmp 0)))⟩
  (.seq ⟨some 45, none, (.ofA (.nilc (.tmp 44)))⟩
  (.seq ⟨some 46, none, (.ofA (.faddr 194 (.tmp 45)))⟩
  (.seq ⟨some 47, none, (.ofA (.load none (.tmp 46)))⟩
  (.seq ⟨some 48, none, (.buildSl 1 1 [(.v (.int .i64 0))] [(0, 1, (.cst (.v (.int .i64 0))))])⟩
  (.seq ⟨some 49, none, (.app 1 8 (.tmp 47) (.tmp 48))⟩
  (.seq ⟨some 50, none, (.ofA (.nilc (.tmp 43)))⟩
  (.seq ⟨some 51, none, (.ofA (.faddr 194 (.tmp 50)))⟩
  (.seq ⟨none, none, (.store 1 (.tmp 51) (.tmp 49))⟩
  .done)))))))))))))))
 (.tree (.seq ⟨some 52, none, (.ofA (.bin .add (.tmp 17) (.cst (.v (.int .i64 1)))))⟩
  (.seq ⟨some 17, none, (.ofA (.mv (.tmp 52)))⟩
  .done))))))))))
def r52 : List XR := []
theorem fn52 : FnX Tryz.prog 52 EFF 53 x52 r52 := ⟨_, Tryz.func52, by kernel_rfl, by kernel_rfl, by kernel_rfl, by kernel_rfl⟩
-- almshouse/table.New (2 parameters)
def x53 : XC := (.seq (.tree (.seq ⟨some 4, none, (.ofA (.mv (.cst (.v (.pointer none)))))⟩
  .done))
 (.seq (.seq (.tree (.seq ⟨some 6, none, (.ofA (.mv (.tmp 0)))⟩
  (.seq ⟨some 7, none, (.ofA (.bin .lss (.tmp 6) (.cst (.v (.int .i64 1)))))⟩
  (.seq ⟨some 8, none, (.ofA (.mv (.tmp 7)))⟩
  (.seq ⟨some 9, some (8, false), (.ofA (.mv (.tmp 0)))⟩
  (.seq ⟨some 10, some (8, false), (.ofA (.bin .gtr (.tmp 9) (.cst (.v (.int .i64 64)))))⟩
  (.seq ⟨some 11, none, (.ofA (.pick (.tmp 8) (.cst (.v (.bool true))) (.tmp 10)))⟩
  (.seq ⟨some 12, none, (.ofA (.mv (.tmp 11)))⟩
  (.seq ⟨some 13, some (12, false), (.ofA (.mv (.tmp 1)))⟩
  (.seq ⟨some 14, some (12, false), (.ofA (.bin .lss (.tmp 13) (.cst (.v (.int .i64 2)))))⟩
  (.seq ⟨some 15, none, (.ofA (.pick (.tmp 12) (.cst (.v (.bool true))) (.tmp 14)))⟩
  (.seq ⟨some 16, none, (.ofA (.mv (.tmp 15)))⟩
  (.seq ⟨some 17, some (16, false), (.ofA (.mv (.tmp 1)))⟩
  (.seq ⟨some 18, some (16, false), (.ofA (.bin .gtr (.tmp 17) (.cst (.v (.int .i64 16)))))⟩
  (.seq ⟨some 19, none, (.ofA (.pick (.tmp 16) (.cst (.v (.bool true))) (.tmp 18)))⟩
  .done)))))))))))))))
 (.cond (.tmp 19)
 (.seq (.tree (.seq ⟨some 4, none, (.ofA (.mv (.cst (.v (.pointer none)))))⟩
  .done))
 .ret)
 .skip))
 (.seq (.tree (.seq ⟨some 20, none, (.ofA (.mv (.tmp 1)))⟩
  (.seq ⟨some 21, none, (.build [(.v (.int .i64 0)), (.v (.int .i64 0)), (.v (.int .i64 0)), (.v (.bool false)), (.v (.int .i64 0)), (.v (.int .i64 0)), (.v (.bool false)), (.v (.int .i64 0)), (.v (.int .i64 0)), (.v (.bool false)), (.v (.int .i64 0)), (.v (.int .i64 0)), (.v (.bool false)), (.v (.int .i64 0)), (.v (.int .i64 0)), (.v (.bool false)), (.v (.int .i64 0)), (.v (.int .i64 0)), (.v (.bool false)), (.v (.int .i64 0)), (.v (.int .i64 0)), (.v (.bool false)), (.v (.int .i64 0)), (.v (.int .i64 0)), (.v (.bool false)), (.v (.int .i64 0)), (.v (.int .i64 0)), (.v (.bool false)), (.v (.int .i64 0)), (.v (.int .i64 0)), (.v (.bool false)), (.v (.int .i64 0)), (.v (.int .i64 0)), (.v (.bool false)), (.v (.int .i64 0)), (.v (.int .i64 0)), (.v (.bool false)), (.v (.int .i64 0)), (.v (.int .i64 0)), (.v (.bool false)), (.v (.int .i64 0)), (.v (.int .i64 0)), (.v (.bool false)), (.v (.int .i64 0)), (.v (.int .i64 0)), (.v (.bool false)), (.v (.int .i64 0)), (.v (.int .i64 0)), (.v (.bool false)), (.v (.int .i64 0)), (.v (.int .i64 0)), (.v (.bool false)), (.v (.int .i64 0)), (.v (.int .i64 0)), (.v (.bool false)), (.v (.int .i64 0)), (.v (.int .i64 0)), (.v (.bool false)), (.v (.int .i64 0)), (.v (.int .i64 0)), (.v (.bool false)), (.v (.int .i64 0)), (.v (.int .i64 0)), (.v (.bool false)), (.v (.int .i64 0)), (.v (.int .i64 0)), (.v (.bool false)), (.v (.int .i64 0)), (.v (.int .i64 0)), (.v (.bool false)), (.v (.int .i64 0)), (.v (.int .i64 0)), (.v (.bool false)), (.v (.int .i64 0)), (.v (.int .i64 0)), (.v (.bool false)), (.v (.int .i64 0)), (.v (.int .i64 0)), (.v (.bool false)), (.v (.int .i64 0)), (.v (.int .i64 0)), (.v (.bool false)), (.v (.int .i64 0)), (.v (.int .i64 0)), (.v (.bool false)), (.v (.int .i64 0)), (.v (.int .i64 0)), (.v (.bool false)), (.v (.int .i64 0)), (.v (.int .i64 0)), (.v (.bool false)), (.v (.int .i64 0)), (.v (.int .i64 0)), (.v (.bool false)), (.v (.int .i64 0)), (.v (.int .i64 0)), (.v (.bool false)), (.v (.int .i64 0)), (.v (.int .i64 0)), (.v (.bool false)), (.v (.int .i64 0)), (.v (.int .i64 0)), (.v (.bool false)), (.v (.int .i64 0)), (.v (.int .i64 0)), (.v (.bool false)), (.v (.int .i64 0)), (.v (.int .i64 0)), (.v (.bool false)), (.v (.int .i64 0)), (.v (.int .i64 0)), (.v (.bool false)), (.v (.int .i64 0)), (.v (.int .i64 0)), (.v (.bool false)), (.v (.int .i64 0)), (.v (.int .i64 0)), (.v (.bool false)), (.v (.int .i64 0)), (.v (.int .i64 0)), (.v (.bool false)), (.v (.int .i64 0)), (.v (.int .i64 0)), (.v (.bool false)), (.v (.int .i64 0)), (.v (.int .i64 0)), (.v (.bool false)), (.v (.int .i64 0)), (.v (.int .i64 0)), (.v (.bool false)), (.v (.int .i64 0)), (.v (.int .i64 0)), (.v (.bool false)), (.v (.int .i64 0)), (.v (.int .i64 0)), (.v (.bool false)), (.v (.int .i64 0)), (.v (.int .i64 0)), (.v (.bool false)), (.v (.int .i64 0)), (.v (.int .i64 0)), (.v (.bool false)), (.v (.int .i64 0)), (.v (.int .i64 0)), (.v (.bool false)), (.v (.int .i64 0)), (.v (.int .i64 0)), (.v (.bool false)), (.v (.int .i64 0)), (.v (.int .i64 0)), (.v (.bool false)), (.v (.int .i64 0)), (.v (.int .i64 0)), (.v (.bool false)), (.v (.int .i64 0)), (.v (.int .i64 0)), (.v (.bool false)), (.v (.int .i64 0)), (.v (.int .i64 0)), (.v (.bool false)), (.v (.int .i64 0)), (.v (.int .i64 0)), (.v (.bool false)), (.v (.int .i64 0)), (.v (.int .i64 0)), (.v (.bool false)), (.v (.int .i64 0)), (.v (.int .i64 0)), (.v (.bool false)), (.v (.int .i64 0)), (.v (.int .i64 0)), (.v (.bool false)), (.v (.int .i64 0)), (.v (.int .i64 0)), (.v (.bool false)), (.v (.int .i64 0)), (.v (.int .i64 0)), (.v (.bool false)), (.v (.int .i64 0)), (.v (.int .i64 0)), (.v (.bool false)), (.v (.int .i64 0)), (.v (.int .i64 0)), (.v (.bool false)), (.v (.int .i64 0)), (.v (.int .i64 0)), (.v (.bool false)), (.v (.int .i64 0)), (.v (.int .i64 0)), (.v (.bool false)), (.v (.int .i64 0)), (.v (.int .i64 0)), (.v (.bool false)), (.v (.slice none 0 0)), (.v (.slice none 0 0))] [(0, 1, (.tmp 20))])⟩
  (.seq ⟨some 22, none, (.box (.tmp 21))⟩
  (.seq ⟨some 5, none, (.ofA (.mv (.tmp 22)))⟩
  .done)))))
 (.seq (.tree (.seq ⟨some 23, none, (.ofA (.mv (.tmp 5)))⟩
  (.seq ⟨some 24, none, (.ofA (.mv (.tmp 0)))⟩
  (.seq ⟨some 25, none, (.call (.cst (.fn 52 [])) [(.tmp 23), (.tmp 24)])⟩
  .done))))
 (.seq (.tree (.seq ⟨some 26, none, (.ofA (.mv (.tmp 5)))⟩
  (.seq ⟨some 4, none, (.ofA (.mv (.tmp 26)))⟩
  .done)))
 .ret)))))
def r53 : List XR := [.tmp 4]
theorem fn53 : FnX Tryz.prog 53 EFF 27 x53 r53 := ⟨_, Tryz.func53, by kernel_rfl, by kernel_rfl, by kernel_rfl, by kernel_rfl⟩
-- (*almshouse/nand.Nand).Geometry (1 parameters)
def x54 : XC := (.seq (.tree (.seq ⟨some 2, none, (.alloc [(.v (.int .i64 0)), (.v (.int .i64 0)), (.v (.int .i64 0)), (.v (.int .i64 0))])⟩
  .done))
 (.seq (.seq (.tree (.seq ⟨some 3, none, (.ofA (.mv (.tmp 0)))⟩
  (.seq ⟨some 4, none, (.ofA (.eqn false 1 (.tmp 3) (.cst (.v (.pointer none)))))⟩
  .done)))
 (.cond (.tmp 4)
 (.seq (.tree (.seq ⟨some 5, none, (.build [(.v (.int .i64 0)), (.v (.int .i64 0)), (.v (.int .i64 0)), (.v (.int .i64 0))] [])⟩
  (.seq ⟨none, none, (.store 4 (.tmp 2) (.tmp 5))⟩
  .done)))
 .ret)
 .skip))
 (.seq (.tree (.seq ⟨some 6, none, (.ofA (.mv (.tmp 0)))⟩
  (.seq ⟨some 7, none, (.ofA (.nilc (.tmp 6)))⟩
  (.seq ⟨some 8, none, (.ofA (.faddr 0 (.tmp 7)))⟩
  (.seq ⟨some 9, none, (.ofA (.load (some 4) (.tmp 8)))⟩
  (.seq ⟨none, none, (.store 4 (.tmp 2) (.tmp 9))⟩
  .done))))))
 .ret)))
def r54 : List XR := [.cell 2 (some 4)]
theorem fn54 : FnX Tryz.prog 54 EFF 10 x54 r54 := ⟨_, Tryz.func54, by kernel_rfl, by kernel_rfl, by kernel_rfl, by kernel_rfl⟩
-- slices.Clone[[]int,int] (1 parameters)
def x55 : XC := (.seq (.tree (.seq ⟨some 2, none, (.ofA (.mv (.cst (.v (.slice none 0 0)))))⟩
  .done))
 (.seq (.seq (.tree (.seq ⟨some 3, none, (.ofA (.mv (.tmp 0)))⟩
  (.seq ⟨some 4, none, (.ofA (.eqn false 2 (.tmp 3) (.cst (.v (.slice none 0 0)))))⟩
  .done)))
 (.cond (.tmp 4)
 (.seq (.tree (.seq ⟨some 2, none, (.ofA (.mv (.cst (.v (.slice none 0 0)))))⟩
  .done))
 .ret)
 .skip))
 (.seq (.tree (.seq ⟨some 5, none, (.buildSl 1 0 [] [])⟩
  (.seq ⟨some 6, none, (.ofA (.mv (.tmp 0)))⟩
  (.seq ⟨some 7, none, (.app 1 8 (.tmp 5) (.tmp 6))⟩
  (.seq ⟨some 2, none, (.ofA (.mv (.tmp 7)))⟩
  .done)))))
 .ret)))
def r55 : List XR := [.tmp 2]
theorem fn55 : FnX Tryz.prog 55 EFF 8 x55 r55 := ⟨_, Tryz.func55, by kernel_rfl, by kernel_rfl, by kernel_rfl, by kernel_rfl⟩
-- almshouse/buffer.New (0 parameters)
def x56 : XC := (.seq (.tree (.seq ⟨some 0, none, (.ofA (.mv (.cst (.v (.pointer none)))))⟩
  .done))
 (.seq (.tree (.seq ⟨some 1, none, (.build [(.v (.int .i64 0)), (.v (.int .i64 0)), (.v (.string ⟨#[]⟩)), (.v (.int .i64 0)), (.v (.int .i64 0)), (.v (.string ⟨#[]⟩)), (.v (.int .i64 0)), (.v (.int .i64 0)), (.v (.string ⟨#[]⟩)), (.v (.int .i64 0)), (.v (.int .i64 0)), (.v (.string ⟨#[]⟩)), (.v (.int .i64 0)), (.v (.int .i64 0))] [])⟩
  (.seq ⟨some 2, none, (.box (.tmp 1))⟩
  (.seq ⟨some 0, none, (.ofA (.mv (.tmp 2)))⟩
  .done))))
 .ret))
def r56 : List XR := [.tmp 0]
theorem fn56 : FnX Tryz.prog 56 EFF 3 x56 r56 := ⟨_, Tryz.func56, by kernel_rfl, by kernel_rfl, by kernel_rfl, by kernel_rfl⟩
-- (*almshouse/store.Store).change (2 parameters)
def x57 : XC := (.seq (.tree (.seq ⟨some 3, none, (.box (.tmp 1))⟩
  (.seq ⟨some 4, none, (.ofA (.mv (.cst (.v (.int .i64 0)))))⟩
  .done)))
 (.seq (.seq (.tree (.seq ⟨some 7, none, (.ofA (.mv (.tmp 0)))⟩
  (.seq ⟨some 8, none, (.ofA (.faddr 0 (.tmp 3)))⟩
  (.seq ⟨some 9, none, (.ofA (.load none (.tmp 8)))⟩
  (.seq ⟨some 10, none, (.call (.cst (.fn 47 [])) [(.tmp 7), (.tmp 9)])⟩
  (.seq ⟨some 5, none, (.ofA (.mv (.tmp 10)))⟩
  .done))))))
 (.seq (.tree (.seq ⟨some 11, none, (.ofA (.mv (.tmp 5)))⟩
  (.seq ⟨some 12, none, (.ofA (.bin .neq (.tmp 11) (.cst (.v (.int .i64 0)))))⟩
  .done)))
 (.cond (.tmp 12)
 (.seq (.tree (.seq ⟨some 13, none, (.ofA (.mv (.tmp 5)))⟩
  (.seq ⟨some 4, none, (.ofA (.mv (.tmp 13)))⟩
  .done)))
 .ret)
 .skip)))
 (.seq (.block 0 (.seq (.tree (.seq ⟨some 15, none, (.ofA (.faddr 2 (.tmp 3)))⟩
  (.seq ⟨some 16, none, (.ofA (.load none (.tmp 15)))⟩
  (.seq ⟨some 17, none, (.ofA (.lens (.tmp 16)))⟩
  (.seq ⟨some 18, none, (.ofA (.bin .gtr (.tmp 17) (.cst (.v (.int .i64 16)))))⟩
  (.seq ⟨some 14, none, (.ofA (.mv (.tmp 18)))⟩
  .done))))))
 (.cond (.tmp 14)
 (.seq (.tree (.seq ⟨some 4, none, (.ofA (.mv (.cst (.v (.int .i64 3)))))⟩
  .done))
 .ret)
 (.seq (.tree (.seq ⟨some 20, none, (.ofA (.mv (.tmp 0)))⟩
  (.seq ⟨some 21, none, (.ofA (.nilc (.tmp 20)))⟩
  (.seq ⟨some 22, none, (.ofA (.faddr 11 (.tmp 21)))⟩
  (.seq ⟨some 23, none, (.ofA (.load none (.tmp 22)))⟩
  (.seq ⟨some 19, none, (.ofA (.mv (.tmp 23)))⟩
  .done))))))
 (.cond (.tmp 19)
 (.seq (.tree (.seq ⟨some 4, none, (.ofA (.mv (.cst (.v (.int .i64 13)))))⟩
  .done))
 .ret)
 .skip)))))
 (.seq (.seq (.tree (.seq ⟨some 24, none, (.ofA (.mv (.tmp 0)))⟩
  (.seq ⟨some 25, none, (.ofA (.nilc (.tmp 24)))⟩
  (.seq ⟨some 26, none, (.ofA (.faddr 8 (.tmp 25)))⟩
  (.seq ⟨some 27, none, (.ofA (.load none (.tmp 26)))⟩
  (.seq ⟨some 28, none, (.call (.cst (.fn 121 [])) [(.tmp 27)])⟩
  .done))))))
 (.cond (.tmp 28)
 (.seq (.tree (.seq ⟨some 29, none, (.ofA (.mv (.tmp 0)))⟩
  (.seq ⟨some 30, none, (.call (.cst (.fn 59 [])) [(.tmp 29)])⟩
  (.seq ⟨some 6, none, (.ofA (.mv (.tmp 30)))⟩
  .done))))
 (.seq (.tree (.seq ⟨some 31, none, (.ofA (.mv (.tmp 6)))⟩
  (.seq ⟨some 32, none, (.ofA (.bin .neq (.tmp 31) (.cst (.v (.int .i64 0)))))⟩
  .done)))
 (.cond (.tmp 32)
 (.seq (.tree (.seq ⟨some 33, none, (.ofA (.mv (.tmp 6)))⟩
  (.seq ⟨some 4, none, (.ofA (.mv (.tmp 33)))⟩
  .done)))
 .ret)
 .skip)))
 .skip))
 (.seq (.tree (.take ⟨some 34, none, (.ofA (.mv (.tmp 0)))⟩
  (.take ⟨some 35, none, (.ofA (.nilc (.tmp 34)))⟩
  (.take ⟨some 36, none, (.ofA (.faddr 8 (.tmp 35)))⟩
  (.take ⟨some 37, none, (.ofA (.load none (.tmp 36)))⟩
  (.take ⟨some 38, none, (.ofA (.load (some 3) (.tmp 3)))⟩
  (.alt [false] [(⟨some 39, none, (.call (.cst (.fn 122 [])) [(.tmp 37), (.tmp 38)])⟩,
 (.take ⟨some 4, none, (.ofA (.mv (.tmp 39)))⟩
  .done))])))))))
 .ret)))))
def r57 : List XR := [.tmp 4]
theorem fn57 : FnX Tryz.prog 57 EFF 40 x57 r57 := ⟨_, Tryz.func57, by kernel_rfl, by kernel_rfl, by kernel_rfl, by kernel_rfl⟩
-- (*almshouse/buffer.Buffer).Len (1 parameters)
def x58 : XC := (.seq (.tree (.seq ⟨some 2, none, (.ofA (.mv (.cst (.v (.int .i64 0)))))⟩
  .done))
 (.seq (.seq (.tree (.seq ⟨some 3, none, (.ofA (.mv (.tmp 0)))⟩
  (.seq ⟨some 4, none, (.ofA (.eqn false 1 (.tmp 3) (.cst (.v (.pointer none)))))⟩
  .done)))
 (.cond (.tmp 4)
 (.seq (.tree (.seq ⟨some 2, none, (.ofA (.mv (.cst (.v (.int .i64 0)))))⟩
  .done))
 .ret)
 .skip))
 (.seq (.tree (.seq ⟨some 5, none, (.ofA (.mv (.tmp 0)))⟩
  (.seq ⟨some 6, none, (.ofA (.nilc (.tmp 5)))⟩
  (.seq ⟨some 7, none, (.ofA (.faddr 13 (.tmp 6)))⟩
  (.seq ⟨some 8, none, (.ofA (.load none (.tmp 7)))⟩
  (.seq ⟨some 2, none, (.ofA (.mv (.tmp 8)))⟩
  .done))))))
 .ret)))
def r58 : List XR := [.tmp 2]
theorem fn58 : FnX Tryz.prog 58 EFF 9 x58 r58 := ⟨_, Tryz.func58, by kernel_rfl, by kernel_rfl, by kernel_rfl, by kernel_rfl⟩
-- (*almshouse/store.Store).bad (2 parameters)
def x60 : XC := (.seq (.tree (.seq ⟨some 4, none, (.ofA (.mv (.cst (.v (.bool false)))))⟩
  .done))
 (.seq (.tree (.take ⟨some 5, none, (.ofA (.mv (.tmp 0)))⟩
  (.take ⟨some 6, none, (.ofA (.nilc (.tmp 5)))⟩
  (.take ⟨some 7, none, (.ofA (.faddr 0 (.tmp 6)))⟩
  (.take ⟨some 8, none, (.ofA (.load none (.tmp 7)))⟩
  (.take ⟨some 9, none, (.ofA (.mv (.tmp 0)))⟩
  (.take ⟨some 10, none, (.ofA (.nilc (.tmp 9)))⟩
  (.take ⟨some 11, none, (.ofA (.faddr 2 (.tmp 10)))⟩
  (.take ⟨some 12, none, (.ofA (.faddr 4 (.tmp 11)))⟩
  (.take ⟨some 13, none, (.ofA (.load none (.tmp 12)))⟩
  (.take ⟨some 14, none, (.ofA (.mv (.tmp 1)))⟩
  (.take ⟨some 15, none, (.ofA (.isl 1 (.tmp 13) (.tmp 14)))⟩
  (.take ⟨some 16, none, (.ofA (.load none (.tmp 15)))⟩
  (.act true [(⟨some 17, none, (.call (.cst (.fn 126 [])) [(.tmp 8), (.tmp 16)])⟩,
 (.take ⟨some 4, none, (.ofA (.mv (.tmp 17)))⟩
  .done))]))))))))))))))
 .ret))
def r60 : List XR := [.tmp 4]
theorem fn60 : FnX Tryz.prog 60 EFF 18 x60 r60 := ⟨_, Tryz.func60, by kernel_rfl, by kernel_rfl, by kernel_rfl, by kernel_rfl⟩
-- (*almshouse/store.Store).blank (2 parameters)
def x69 : XC := (.seq (.tree (.seq ⟨some 4, none, (.ofA (.mv (.cst (.v (.bool false)))))⟩
  .done))
 (.seq (.tree (.take ⟨some 5, none, (.ofA (.mv (.tmp 0)))⟩
  (.take ⟨some 6, none, (.ofA (.mv (.tmp 1)))⟩
  (.act true [(⟨some 7, none, (.call (.cst (.fn 60 [])) [(.tmp 5), (.tmp 6)])⟩,
 (.take ⟨some 8, none, (.ofA (.un .not (.tmp 7)))⟩
  (.take ⟨some 9, none, (.ofA (.mv (.tmp 8)))⟩
  (.take ⟨some 10, some (9, true), (.ofA (.mv (.tmp 0)))⟩
  (.take ⟨some 11, some (9, true), (.ofA (.nilc (.tmp 10)))⟩
  (.take ⟨some 12, some (9, true), (.ofA (.faddr 0 (.tmp 11)))⟩
  (.take ⟨some 13, some (9, true), (.ofA (.load none (.tmp 12)))⟩
  (.take ⟨some 14, some (9, true), (.ofA (.mv (.tmp 0)))⟩
  (.take ⟨some 15, some (9, true), (.ofA (.nilc (.tmp 14)))⟩
  (.take ⟨some 16, some (9, true), (.ofA (.faddr 2 (.tmp 15)))⟩
  (.take ⟨some 17, some (9, true), (.ofA (.faddr 4 (.tmp 16)))⟩
  (.take ⟨some 18, some (9, true), (.ofA (.load none (.tmp 17)))⟩
  (.take ⟨some 19, some (9, true), (.ofA (.mv (.tmp 1)))⟩
  (.take ⟨some 20, some (9, true), (.ofA (.isl 1 (.tmp 18) (.tmp 19)))⟩
  (.take ⟨some 21, some (9, true), (.ofA (.load none (.tmp 20)))⟩
  (.act true [(⟨some 22, some (9, true), (.call (.cst (.fn 136 [])) [(.tmp 13), (.tmp 21)])⟩,
 (.take ⟨some 23, none, (.ofA (.pick (.tmp 9) (.tmp 22) (.cst (.v (.bool false)))))⟩
  (.take ⟨some 4, none, (.ofA (.mv (.tmp 23)))⟩
  .done)))]))))))))))))))))]))))
 .ret))
def r69 : List XR := [.tmp 4]
theorem fn69 : FnX Tryz.prog 69 EFF 24 x69 r69 := ⟨_, Tryz.func69, by kernel_rfl, by kernel_rfl, by kernel_rfl, by kernel_rfl⟩
-- almshouse/house.New (1 parameters)
def x70 : XC := (.seq (.tree (.seq ⟨some 1, none, (.box (.tmp 0))⟩
  (.seq ⟨some 2, none, (.ofA (.mv (.cst (.v (.pointer none)))))⟩
  (.seq ⟨some 3, none, (.ofA (.mv (.cst (.v (.int .i64 0)))))⟩
  .done))))
 (.seq (.tree (.seq ⟨some 11, none, (.ofA (.faddr 4 (.tmp 1)))⟩
  (.seq ⟨some 12, none, (.ofA (.load (some 4) (.tmp 11)))⟩
  (.seq ⟨some 13, none, (.call (.cst (.fn 116 [])) [(.tmp 12)])⟩
  (.seq ⟨some 10, none, (.ofA (.mv (.tmp 13)))⟩
  (.seq ⟨some 14, none, (.ofA (.extract 0 (.tmp 10)))⟩
  (.seq ⟨some 15, none, (.ofA (.extract 1 (.tmp 10)))⟩
  (.seq ⟨some 4, none, (.ofA (.mv (.tmp 14)))⟩
  (.seq ⟨some 5, none, (.ofA (.mv (.tmp 15)))⟩
  .done)))))))))
 (.seq (.seq (.tree (.seq ⟨some 16, none, (.ofA (.mv (.tmp 5)))⟩
  (.seq ⟨some 17, none, (.ofA (.bin .neq (.tmp 16) (.cst (.v (.int .i64 0)))))⟩
  .done)))
 (.cond (.tmp 17)
 (.seq (.tree (.seq ⟨some 18, none, (.ofA (.mv (.tmp 5)))⟩
  (.seq ⟨some 2, none, (.ofA (.mv (.cst (.v (.pointer none)))))⟩
  (.seq ⟨some 3, none, (.ofA (.mv (.tmp 18)))⟩
  .done))))
 .ret)
 .skip))
 (.seq (.tree (.seq ⟨some 19, none, (.call (.cst (.fn 114 [])) [(.cst (.v (.int .i64 (-1))))])⟩
  (.seq ⟨some 6, none, (.ofA (.mv (.tmp 19)))⟩
  .done)))
 (.seq (.tree (.seq ⟨some 21, none, (.ofA (.faddr 0 (.tmp 1)))⟩
  (.seq ⟨some 22, none, (.ofA (.load (some 4) (.tmp 21)))⟩
  (.seq ⟨some 23, none, (.ofA (.mv (.tmp 6)))⟩
  (.seq ⟨some 24, none, (.ofA (.mv (.tmp 4)))⟩
  (.seq ⟨some 25, none, (.ofA (.faddr 8 (.tmp 1)))⟩
  (.seq ⟨some 26, none, (.ofA (.load none (.tmp 25)))⟩
  (.seq ⟨some 27, none, (.call (.cst (.fn 117 [])) [(.tmp 22), (.tmp 23), (.tmp 24), (.tmp 26)])⟩
  (.seq ⟨some 20, none, (.ofA (.mv (.tmp 27)))⟩
  (.seq ⟨some 28, none, (.ofA (.extract 0 (.tmp 20)))⟩
  (.seq ⟨some 29, none, (.ofA (.extract 1 (.tmp 20)))⟩
  (.seq ⟨some 7, none, (.ofA (.mv (.tmp 28)))⟩
  (.seq ⟨some 5, none, (.ofA (.mv (.tmp 29)))⟩
  .done)))))))))))))
 (.seq (.seq (.tree (.seq ⟨some 30, none, (.ofA (.mv (.tmp 5)))⟩
  (.seq ⟨some 31, none, (.ofA (.bin .neq (.tmp 30) (.cst (.v (.int .i64 0)))))⟩
  .done)))
 (.cond (.tmp 31)
 (.seq (.tree (.seq ⟨some 32, none, (.ofA (.mv (.tmp 5)))⟩
  (.seq ⟨some 2, none, (.ofA (.mv (.cst (.v (.pointer none)))))⟩
  (.seq ⟨some 3, none, (.ofA (.mv (.tmp 32)))⟩
  .done))))
 .ret)
 .skip))
 (.seq (.tree (.seq ⟨some 33, none, (.ofA (.mv (.tmp 7)))⟩
  (.seq ⟨some 34, none, (.ofA (.mv (.tmp 6)))⟩
  (.seq ⟨some 35, none, (.ofA (.mv (.tmp 4)))⟩
  (.seq ⟨some 36, none, (.build [(.v (.pointer none)), (.v (.pointer none)), (.v (.pointer none)), (.v (.int .i64 0)), (.v (.int .i64 0)), (.v (.bool false)), (.v (.int .i64 0)), (.v (.int .i64 0)), (.v (.int .i64 0)), (.v (.slice none 0 0)), (.v (.bool false)), (.v (.int .i64 0)), (.v (.int .i64 0)), (.v (.int .i64 0)), (.v (.slice none 0 0)), (.v (.bool false)), (.v (.int .i64 0)), (.v (.int .i64 0)), (.v (.int .i64 0)), (.v (.slice none 0 0)), (.v (.bool false)), (.v (.int .i64 0)), (.v (.int .i64 0)), (.v (.int .i64 0)), (.v (.slice none 0 0)), (.v (.pointer none)), (.v (.pointer none)), (.v (.pointer none)), (.v (.pointer none)), (.v (.pointer none)), (.v (.pointer none)), (.v (.pointer none)), (.v (.pointer none)), (.v (.int .i64 0)), (.v (.bool false))] [(0, 1, (.tmp 33)), (1, 1, (.tmp 34)), (2, 1, (.tmp 35)), (34, 1, (.cst (.v (.bool true))))])⟩
  (.seq ⟨some 37, none, (.box (.tmp 36))⟩
  (.seq ⟨some 8, none, (.ofA (.mv (.tmp 37)))⟩
  .done)))))))
 (.seq (.seq (.tree (.seq ⟨some 38, none, (.ofA (.mv (.cst (.v (.int .i64 0)))))⟩
  .done))
 (.block 0 (.loop (.seq (.tree (.seq ⟨some 39, none, (.ofA (.bin .lss (.tmp 38) (.cst (.v (.int .i64 4)))))⟩
  .done))
 (.seq (.cond (.tmp 39)
 .skip
 (.exit 0))
 (.seq (.block 1 (.seq (.tree (.seq ⟨some 40, none, (.ofA (.mv (.tmp 38)))⟩
  (.seq ⟨some 9, none, (.ofA (.mv (.tmp 40)))⟩
  .done)))
 (.tree (.take ⟨some 41, none, (.ofA (.mv (.tmp 8)))⟩
  (.take ⟨some 42, none, (.ofA (.mv (.tmp 9)))⟩
  (.take ⟨some 44, none, (.ofA (.nilc (.tmp 41)))⟩
  (.take ⟨some 45, none, (.ofA (.faddr 25 (.tmp 44)))⟩
  (.alt [true] [(⟨some 43, none, (.call (.cst (.fn 86 [])) [])⟩,
 (.take ⟨some 46, none, (.ofA (.iarr 4 2 (.tmp 45) (.tmp 42)))⟩
  (.take ⟨some 47, none, (.ofA (.faddr 1 (.tmp 46)))⟩
  (.alt [false] [(⟨none, none, (.store 1 (.tmp 47) (.tmp 43))⟩,
 .done)]))))]))))))))
 (.tree (.seq ⟨some 48, none, (.ofA (.bin .add (.tmp 38) (.cst (.v (.int .i64 1)))))⟩
  (.seq ⟨some 38, none, (.ofA (.mv (.tmp 48)))⟩
  .done)))))))))
 (.seq (.tree (.seq ⟨some 49, none, (.ofA (.mv (.tmp 8)))⟩
  (.seq ⟨some 2, none, (.ofA (.mv (.tmp 49)))⟩
  (.seq ⟨some 3, none, (.ofA (.mv (.cst (.v (.int .i64 0)))))⟩
  .done))))
 .ret)))))))))
def r70 : List XR := [.tmp 2, .tmp 3]
theorem fn70 : FnX Tryz.prog 70 EFF 50 x70 r70 := ⟨_, Tryz.func70, by kernel_rfl, by kernel_rfl, by kernel_rfl, by kernel_rfl⟩
-- almshouse/almshouselaw21.small (2 parameters)
def x71 : XC := (.seq (.tree (.seq ⟨some 4, none, (.alloc [(.v (.int .i64 0)), (.v (.int .i64 0)), (.v (.int .i64 0)), (.v (.int .i64 0)), (.v (.slice none 0 0)), (.v (.slice none 0 0)), (.v (.slice none 0 0)), (.v (.slice none 0 0)), (.v (.slice none 0 0))])⟩
  .done))
 (.seq (.tree (.seq ⟨some 5, none, (.ofA (.mv (.tmp 0)))⟩
  (.seq ⟨some 6, none, (.ofA (.mv (.tmp 1)))⟩
  (.seq ⟨some 7, none, (.build [(.v (.int .i64 0)), (.v (.int .i64 0)), (.v (.int .i64 0)), (.v (.int .i64 0))] [(0, 1, (.cst (.v (.int .i64 2)))), (1, 1, (.cst (.v (.int .i64 1)))), (2, 1, (.tmp 5)), (3, 1, (.tmp 6))])⟩
  (.seq ⟨some 8, none, (.build [(.v (.int .i64 0)), (.v (.int .i64 0)), (.v (.int .i64 0)), (.v (.int .i64 0)), (.v (.slice none 0 0)), (.v (.slice none 0 0)), (.v (.slice none 0 0)), (.v (.slice none 0 0)), (.v (.slice none 0 0))] [(0, 4, (.tmp 7))])⟩
  (.seq ⟨none, none, (.store 9 (.tmp 4) (.tmp 8))⟩
  .done))))))
 .ret))
def r71 : List XR := [.cell 4 (some 9)]
theorem fn71 : FnX Tryz.prog 71 EFF 9 x71 r71 := ⟨_, Tryz.func71, by kernel_rfl, by kernel_rfl, by kernel_rfl, by kernel_rfl⟩
-- (*almshouse/house.House).settle (1 parameters)
def x73 : XC := (.seq (.seq (.tree (.seq ⟨some 3, none, (.ofA (.mv (.tmp 0)))⟩
  (.seq ⟨some 4, none, (.ofA (.nilc (.tmp 3)))⟩
  (.seq ⟨some 5, none, (.ofA (.faddr 34 (.tmp 4)))⟩
  (.seq ⟨some 6, none, (.ofA (.load none (.tmp 5)))⟩
  (.seq ⟨some 7, none, (.ofA (.un .not (.tmp 6)))⟩
  (.seq ⟨some 8, none, (.ofA (.mv (.tmp 7)))⟩
  (.seq ⟨some 9, some (8, false), (.ofA (.mv (.tmp 0)))⟩
  (.seq ⟨some 10, some (8, false), (.ofA (.nilc (.tmp 9)))⟩
  (.seq ⟨some 11, some (8, false), (.ofA (.faddr 1 (.tmp 10)))⟩
  (.seq ⟨some 12, some (8, false), (.ofA (.load none (.tmp 11)))⟩
  (.seq ⟨some 13, some (8, false), (.call (.cst (.fn 99 [])) [(.tmp 12)])⟩
  (.seq ⟨some 14, some (8, false), (.ofA (.un .not (.tmp 13)))⟩
  (.seq ⟨some 15, none, (.ofA (.pick (.tmp 8) (.cst (.v (.bool true))) (.tmp 14)))⟩
  .done))))))))))))))
 (.cond (.tmp 15)
 .ret
 .skip))
 (.seq (.tree (.seq ⟨some 16, none, (.ofA (.mv (.tmp 0)))⟩
  (.seq ⟨some 17, none, (.ofA (.nilc (.tmp 16)))⟩
  (.seq ⟨some 18, none, (.ofA (.faddr 34 (.tmp 17)))⟩
  (.seq ⟨none, none, (.store 1 (.tmp 18) (.cst (.v (.bool false))))⟩
  .done)))))
 (.seq (.tree (.seq ⟨some 19, none, (.ofA (.mv (.tmp 0)))⟩
  (.seq ⟨some 20, none, (.build [(.v (.int .i64 0)), (.v (.int .i64 0)), (.v (.bool false)), (.v (.int .i64 0)), (.v (.int .i64 0)), (.v (.int .i64 0)), (.v (.slice none 0 0)), (.v (.bool false)), (.v (.int .i64 0)), (.v (.int .i64 0)), (.v (.int .i64 0)), (.v (.slice none 0 0)), (.v (.bool false)), (.v (.int .i64 0)), (.v (.int .i64 0)), (.v (.int .i64 0)), (.v (.slice none 0 0)), (.v (.bool false)), (.v (.int .i64 0)), (.v (.int .i64 0)), (.v (.int .i64 0)), (.v (.slice none 0 0))] [])⟩
  (.seq ⟨some 21, none, (.ofA (.nilc (.tmp 19)))⟩
  (.seq ⟨some 22, none, (.ofA (.faddr 3 (.tmp 21)))⟩
  (.seq ⟨none, none, (.store 22 (.tmp 22) (.tmp 20))⟩
  .done))))))
 (.seq (.tree (.seq ⟨some 23, none, (.ofA (.mv (.cst (.v (.int .i64 0)))))⟩
  .done))
 (.block 0 (.loop (.seq (.tree (.seq ⟨some 24, none, (.ofA (.bin .lss (.tmp 23) (.cst (.v (.int .i64 4)))))⟩
  .done))
 (.seq (.cond (.tmp 24)
 .skip
 (.exit 0))
 (.seq (.block 1 (.seq (.tree (.seq ⟨some 25, none, (.ofA (.mv (.tmp 23)))⟩
  (.seq ⟨some 2, none, (.ofA (.mv (.tmp 25)))⟩
  .done)))
 (.seq (.tree (.seq ⟨some 26, none, (.ofA (.mv (.tmp 0)))⟩
  (.seq ⟨some 27, none, (.ofA (.mv (.tmp 2)))⟩
  (.seq ⟨some 28, none, (.ofA (.nilc (.tmp 26)))⟩
  (.seq ⟨some 29, none, (.ofA (.faddr 25 (.tmp 28)))⟩
  (.seq ⟨some 30, none, (.ofA (.iarr 4 2 (.tmp 29) (.tmp 27)))⟩
  (.seq ⟨some 31, none, (.ofA (.faddr 0 (.tmp 30)))⟩
  (.seq ⟨none, none, (.store 1 (.tmp 31) (.cst (.v (.pointer none))))⟩
  .done))))))))
 (.tree (.seq ⟨some 32, none, (.ofA (.mv (.tmp 0)))⟩
  (.seq ⟨some 33, none, (.ofA (.mv (.tmp 2)))⟩
  (.seq ⟨some 34, none, (.ofA (.nilc (.tmp 32)))⟩
  (.seq ⟨some 35, none, (.ofA (.faddr 25 (.tmp 34)))⟩
  (.seq ⟨some 36, none, (.ofA (.iarr 4 2 (.tmp 35) (.tmp 33)))⟩
  (.seq ⟨some 37, none, (.ofA (.faddr 1 (.tmp 36)))⟩
  (.seq ⟨some 38, none, (.ofA (.load none (.tmp 37)))⟩
  (.seq ⟨some 39, none, (.call (.cst (.fn 89 [])) [(.tmp 38)])⟩
  .done))))))))))))
 (.tree (.seq ⟨some 40, none, (.ofA (.bin .add (.tmp 23) (.cst (.v (.int .i64 1)))))⟩
  (.seq ⟨some 23, none, (.ofA (.mv (.tmp 40)))⟩
  .done))))))))))))
def r73 : List XR := []
theorem fn73 : FnX Tryz.prog 73 EFF 41 x73 r73 := ⟨_, Tryz.func73, by kernel_rfl, by kernel_rfl, by kernel_rfl, by kernel_rfl⟩
-- (*almshouse/house.House).there (2 parameters)
def x75 : XC := (.seq (.tree (.seq ⟨some 4, none, (.ofA (.mv (.cst (.v (.int .i64 0)))))⟩
  .done))
 (.seq (.block 0 (.seq (.tree (.seq ⟨some 6, none, (.ofA (.mv (.tmp 0)))⟩
  (.seq ⟨some 7, none, (.call (.cst (.fn 36 [])) [(.tmp 6)])⟩
  (.seq ⟨some 8, none, (.ofA (.un .not (.tmp 7)))⟩
  (.seq ⟨some 5, none, (.ofA (.mv (.tmp 8)))⟩
  .done)))))
 (.cond (.tmp 5)
 (.seq (.tree (.seq ⟨some 4, none, (.ofA (.mv (.cst (.v (.int .i64 12)))))⟩
  .done))
 .ret)
 (.seq (.tree (.seq ⟨some 10, none, (.ofA (.mv (.tmp 1)))⟩
  (.seq ⟨some 11, none, (.ofA (.bin .lss (.tmp 10) (.cst (.v (.int .i64 0)))))⟩
  (.seq ⟨some 12, none, (.ofA (.mv (.tmp 11)))⟩
  (.seq ⟨some 13, some (12, false), (.ofA (.mv (.tmp 1)))⟩
  (.seq ⟨some 14, some (12, false), (.ofA (.bin .geq (.tmp 13) (.cst (.v (.int .i64 4)))))⟩
  (.seq ⟨some 15, none, (.ofA (.pick (.tmp 12) (.cst (.v (.bool true))) (.tmp 14)))⟩
  (.seq ⟨some 9, none, (.ofA (.mv (.tmp 15)))⟩
  .done))))))))
 (.cond (.tmp 9)
 (.seq (.tree (.seq ⟨some 4, none, (.ofA (.mv (.cst (.v (.int .i64 5)))))⟩
  .done))
 .ret)
 (.seq (.tree (.seq ⟨some 17, none, (.ofA (.mv (.tmp 0)))⟩
  (.seq ⟨some 18, none, (.ofA (.mv (.tmp 1)))⟩
  (.seq ⟨some 19, none, (.ofA (.nilc (.tmp 17)))⟩
  (.seq ⟨some 20, none, (.ofA (.faddr 3 (.tmp 19)))⟩
  (.seq ⟨some 21, none, (.ofA (.faddr 2 (.tmp 20)))⟩
  (.seq ⟨some 22, none, (.ofA (.iarr 4 5 (.tmp 21) (.tmp 18)))⟩
  (.seq ⟨some 23, none, (.ofA (.faddr 0 (.tmp 22)))⟩
  (.seq ⟨some 24, none, (.ofA (.load none (.tmp 23)))⟩
  (.seq ⟨some 25, none, (.ofA (.un .not (.tmp 24)))⟩
  (.seq ⟨some 16, none, (.ofA (.mv (.tmp 25)))⟩
  .done)))))))))))
 (.cond (.tmp 16)
 (.seq (.tree (.seq ⟨some 4, none, (.ofA (.mv (.cst (.v (.int .i64 6)))))⟩
  .done))
 .ret)
 .skip)))))))
 (.seq (.tree (.seq ⟨some 4, none, (.ofA (.mv (.cst (.v (.int .i64 0)))))⟩
  .done))
 .ret)))
def r75 : List XR := [.tmp 4]
theorem fn75 : FnX Tryz.prog 75 EFF 26 x75 r75 := ⟨_, Tryz.func75, by kernel_rfl, by kernel_rfl, by kernel_rfl, by kernel_rfl⟩
-- (*almshouse/draws.Draws).Faults (2 parameters)
def x76 : XC := (.seq (.tree (.seq ⟨some 4, none, (.ofA (.mv (.cst (.v (.int .i64 0)))))⟩
  .done))
 (.seq (.seq (.tree (.seq ⟨some 6, none, (.ofA (.mv (.tmp 0)))⟩
  (.seq ⟨some 7, none, (.ofA (.mv (.tmp 1)))⟩
  (.seq ⟨some 8, none, (.call (.cst (.fn 139 [])) [(.tmp 6), (.tmp 7)])⟩
  (.seq ⟨some 5, none, (.ofA (.mv (.tmp 8)))⟩
  .done)))))
 (.seq (.tree (.seq ⟨some 9, none, (.ofA (.mv (.tmp 5)))⟩
  (.seq ⟨some 10, none, (.ofA (.eqn true 1 (.tmp 9) (.cst (.v (.pointer none)))))⟩
  .done)))
 (.cond (.tmp 10)
 (.seq (.tree (.seq ⟨some 11, none, (.ofA (.mv (.tmp 5)))⟩
  (.seq ⟨some 12, none, (.ofA (.nilc (.tmp 11)))⟩
  (.seq ⟨some 13, none, (.ofA (.faddr 2 (.tmp 12)))⟩
  (.seq ⟨some 14, none, (.call (.cst (.fn 140 [])) [(.tmp 13)])⟩
  (.seq ⟨some 4, none, (.ofA (.mv (.tmp 14)))⟩
  .done))))))
 .ret)
 .skip)))
 (.seq (.tree (.seq ⟨some 4, none, (.ofA (.mv (.cst (.v (.int .i64 0)))))⟩
  .done))
 .ret)))
def r76 : List XR := [.tmp 4]
theorem fn76 : FnX Tryz.prog 76 EFF 15 x76 r76 := ⟨_, Tryz.func76, by kernel_rfl, by kernel_rfl, by kernel_rfl, by kernel_rfl⟩
-- (*almshouse/draws.Draws).Ops (2 parameters)
def x77 : XC := (.seq (.tree (.seq ⟨some 4, none, (.ofA (.mv (.cst (.v (.int .i64 0)))))⟩
  .done))
 (.seq (.seq (.tree (.seq ⟨some 6, none, (.ofA (.mv (.tmp 0)))⟩
  (.seq ⟨some 7, none, (.ofA (.mv (.tmp 1)))⟩
  (.seq ⟨some 8, none, (.call (.cst (.fn 139 [])) [(.tmp 6), (.tmp 7)])⟩
  (.seq ⟨some 5, none, (.ofA (.mv (.tmp 8)))⟩
  .done)))))
 (.seq (.tree (.seq ⟨some 9, none, (.ofA (.mv (.tmp 5)))⟩
  (.seq ⟨some 10, none, (.ofA (.eqn true 1 (.tmp 9) (.cst (.v (.pointer none)))))⟩
  .done)))
 (.cond (.tmp 10)
 (.seq (.tree (.seq ⟨some 11, none, (.ofA (.mv (.tmp 5)))⟩
  (.seq ⟨some 12, none, (.ofA (.nilc (.tmp 11)))⟩
  (.seq ⟨some 13, none, (.ofA (.faddr 1 (.tmp 12)))⟩
  (.seq ⟨some 14, none, (.call (.cst (.fn 140 [])) [(.tmp 13)])⟩
  (.seq ⟨some 4, none, (.ofA (.mv (.tmp 14)))⟩
  .done))))))
 .ret)
 .skip)))
 (.seq (.tree (.seq ⟨some 4, none, (.ofA (.mv (.cst (.v (.int .i64 0)))))⟩
  .done))
 .ret)))
def r77 : List XR := [.tmp 4]
theorem fn77 : FnX Tryz.prog 77 EFF 15 x77 r77 := ⟨_, Tryz.func77, by kernel_rfl, by kernel_rfl, by kernel_rfl, by kernel_rfl⟩
-- (*almshouse/queue.Queue).Len (1 parameters)
def x78 : XC := (.seq (.tree (.seq ⟨some 2, none, (.ofA (.mv (.cst (.v (.int .i64 0)))))⟩
  .done))
 (.seq (.seq (.tree (.seq ⟨some 3, none, (.ofA (.mv (.tmp 0)))⟩
  (.seq ⟨some 4, none, (.ofA (.eqn false 1 (.tmp 3) (.cst (.v (.pointer none)))))⟩
  .done)))
 (.cond (.tmp 4)
 (.seq (.tree (.seq ⟨some 2, none, (.ofA (.mv (.cst (.v (.int .i64 0)))))⟩
  .done))
 .ret)
 .skip))
 (.seq (.tree (.seq ⟨some 5, none, (.ofA (.mv (.tmp 0)))⟩
  (.seq ⟨some 6, none, (.ofA (.nilc (.tmp 5)))⟩
  (.seq ⟨some 7, none, (.ofA (.faddr 0 (.tmp 6)))⟩
  (.seq ⟨some 8, none, (.ofA (.load none (.tmp 7)))⟩
  (.seq ⟨some 9, none, (.ofA (.len (.tmp 8)))⟩
  (.seq ⟨some 2, none, (.ofA (.mv (.tmp 9)))⟩
  .done)))))))
 .ret)))
def r78 : List XR := [.tmp 2]
theorem fn78 : FnX Tryz.prog 78 EFF 10 x78 r78 := ⟨_, Tryz.func78, by kernel_rfl, by kernel_rfl, by kernel_rfl, by kernel_rfl⟩
-- almshouse/ledger.Create (5 parameters)
def x79 : XC := (.seq (.tree (.seq ⟨some 5, none, (.box (.tmp 0))⟩
  (.seq ⟨some 6, none, (.box (.tmp 1))⟩
  (.seq ⟨some 7, none, (.box (.tmp 2))⟩
  (.seq ⟨some 8, none, (.box (.tmp 3))⟩
  (.seq ⟨some 9, none, (.box (.tmp 4))⟩
  (.seq ⟨some 10, none, (.alloc [(.v (.int .i64 0)), (.v (.int .i64 0)), (.v (.bool false)), (.v (.int .i64 0)), (.v (.int .i64 0)), (.v (.int .i64 0)), (.v (.slice none 0 0)), (.v (.bool false)), (.v (.int .i64 0)), (.v (.int .i64 0)), (.v (.int .i64 0)), (.v (.slice none 0 0)), (.v (.bool false)), (.v (.int .i64 0)), (.v (.int .i64 0)), (.v (.int .i64 0)), (.v (.slice none 0 0)), (.v (.bool false)), (.v (.int .i64 0)), (.v (.int .i64 0)), (.v (.int .i64 0)), (.v (.slice none 0 0))])⟩
  (.seq ⟨some 11, none, (.ofA (.mv (.cst (.v (.int .i64 0)))))⟩
  .done))))))))
 (.seq (.tree (.seq ⟨some 14, none, (.ofA (.load (some 22) (.tmp 5)))⟩
  (.seq ⟨some 15, none, (.ofA (.load none (.tmp 6)))⟩
  (.seq ⟨some 16, none, (.call (.cst (.fn 141 [])) [(.tmp 14), (.tmp 15)])⟩
  (.seq ⟨some 12, none, (.ofA (.mv (.tmp 16)))⟩
  .done)))))
 (.seq (.block 0 (.seq (.tree (.seq ⟨some 18, none, (.ofA (.mv (.tmp 12)))⟩
  (.seq ⟨some 19, none, (.ofA (.bin .eql (.tmp 18) (.cst (.v (.int .i64 0)))))⟩
  (.seq ⟨some 17, none, (.ofA (.mv (.tmp 19)))⟩
  .done))))
 (.cond (.tmp 17)
 (.seq (.tree (.seq ⟨some 20, none, (.build [(.v (.int .i64 0)), (.v (.int .i64 0)), (.v (.bool false)), (.v (.int .i64 0)), (.v (.int .i64 0)), (.v (.int .i64 0)), (.v (.slice none 0 0)), (.v (.bool false)), (.v (.int .i64 0)), (.v (.int .i64 0)), (.v (.int .i64 0)), (.v (.slice none 0 0)), (.v (.bool false)), (.v (.int .i64 0)), (.v (.int .i64 0)), (.v (.int .i64 0)), (.v (.slice none 0 0)), (.v (.bool false)), (.v (.int .i64 0)), (.v (.int .i64 0)), (.v (.int .i64 0)), (.v (.slice none 0 0))] [])⟩
  (.seq ⟨none, none, (.store 22 (.tmp 10) (.tmp 20))⟩
  (.seq ⟨some 11, none, (.ofA (.mv (.cst (.v (.int .i64 7)))))⟩
  .done))))
 .ret)
 (.seq (.tree (.seq ⟨some 22, none, (.ofA (.mv (.tmp 12)))⟩
  (.seq ⟨some 23, none, (.ofA (.bin .neq (.tmp 22) (.cst (.v (.int .i64 6)))))⟩
  (.seq ⟨some 21, none, (.ofA (.mv (.tmp 23)))⟩
  .done))))
 (.cond (.tmp 21)
 (.seq (.tree (.seq ⟨some 24, none, (.build [(.v (.int .i64 0)), (.v (.int .i64 0)), (.v (.bool false)), (.v (.int .i64 0)), (.v (.int .i64 0)), (.v (.int .i64 0)), (.v (.slice none 0 0)), (.v (.bool false)), (.v (.int .i64 0)), (.v (.int .i64 0)), (.v (.int .i64 0)), (.v (.slice none 0 0)), (.v (.bool false)), (.v (.int .i64 0)), (.v (.int .i64 0)), (.v (.int .i64 0)), (.v (.slice none 0 0)), (.v (.bool false)), (.v (.int .i64 0)), (.v (.int .i64 0)), (.v (.int .i64 0)), (.v (.slice none 0 0))] [])⟩
  (.seq ⟨some 25, none, (.ofA (.mv (.tmp 12)))⟩
  (.seq ⟨none, none, (.store 22 (.tmp 10) (.tmp 24))⟩
  (.seq ⟨some 11, none, (.ofA (.mv (.tmp 25)))⟩
  .done)))))
 .ret)
 .skip)))))
 (.seq (.seq (.tree (.seq ⟨some 26, none, (.ofA (.load none (.tmp 7)))⟩
  (.seq ⟨some 27, none, (.ofA (.load none (.tmp 8)))⟩
  (.seq ⟨some 28, none, (.call (.cst (.fn 142 [])) [(.tmp 26), (.tmp 27)])⟩
  (.seq ⟨some 13, none, (.ofA (.mv (.tmp 28)))⟩
  .done)))))
 (.seq (.tree (.seq ⟨some 29, none, (.ofA (.mv (.tmp 13)))⟩
  (.seq ⟨some 30, none, (.ofA (.bin .neq (.tmp 29) (.cst (.v (.int .i64 0)))))⟩
  .done)))
 (.cond (.tmp 30)
 (.seq (.tree (.seq ⟨some 31, none, (.build [(.v (.int .i64 0)), (.v (.int .i64 0)), (.v (.bool false)), (.v (.int .i64 0)), (.v (.int .i64 0)), (.v (.int .i64 0)), (.v (.slice none 0 0)), (.v (.bool false)), (.v (.int .i64 0)), (.v (.int .i64 0)), (.v (.int .i64 0)), (.v (.slice none 0 0)), (.v (.bool false)), (.v (.int .i64 0)), (.v (.int .i64 0)), (.v (.int .i64 0)), (.v (.slice none 0 0)), (.v (.bool false)), (.v (.int .i64 0)), (.v (.int .i64 0)), (.v (.int .i64 0)), (.v (.slice none 0 0))] [])⟩
  (.seq ⟨some 32, none, (.ofA (.mv (.tmp 13)))⟩
  (.seq ⟨none, none, (.store 22 (.tmp 10) (.tmp 31))⟩
  (.seq ⟨some 11, none, (.ofA (.mv (.tmp 32)))⟩
  .done)))))
 .ret)
 .skip)))
 (.seq (.seq (.tree (.seq ⟨some 33, none, (.ofA (.faddr 1 (.tmp 5)))⟩
  (.seq ⟨some 34, none, (.ofA (.load none (.tmp 33)))⟩
  (.seq ⟨some 35, none, (.ofA (.bin .eql (.tmp 34) (.cst (.v (.int .i64 2147483647)))))⟩
  .done))))
 (.cond (.tmp 35)
 (.seq (.tree (.seq ⟨some 36, none, (.build [(.v (.int .i64 0)), (.v (.int .i64 0)), (.v (.bool false)), (.v (.int .i64 0)), (.v (.int .i64 0)), (.v (.int .i64 0)), (.v (.slice none 0 0)), (.v (.bool false)), (.v (.int .i64 0)), (.v (.int .i64 0)), (.v (.int .i64 0)), (.v (.slice none 0 0)), (.v (.bool false)), (.v (.int .i64 0)), (.v (.int .i64 0)), (.v (.int .i64 0)), (.v (.slice none 0 0)), (.v (.bool false)), (.v (.int .i64 0)), (.v (.int .i64 0)), (.v (.int .i64 0)), (.v (.slice none 0 0))] [])⟩
  (.seq ⟨none, none, (.store 22 (.tmp 10) (.tmp 36))⟩
  (.seq ⟨some 11, none, (.ofA (.mv (.cst (.v (.int .i64 4)))))⟩
  .done))))
 .ret)
 .skip))
 (.seq (.tree (.seq ⟨some 37, none, (.ofA (.load (some 22) (.tmp 5)))⟩
  (.seq ⟨some 38, none, (.ofA (.mkfn 144 [(.tmp 7), (.tmp 8), (.tmp 9), (.tmp 6)]))⟩
  (.seq ⟨some 39, none, (.call (.cst (.fn 143 [])) [(.tmp 37), (.tmp 38)])⟩
  (.seq ⟨some 40, none, (.ofA (.extract 0 (.tmp 39)))⟩
  (.seq ⟨some 41, none, (.ofA (.extract 1 (.tmp 39)))⟩
  (.seq ⟨none, none, (.store 22 (.tmp 10) (.tmp 40))⟩
  (.seq ⟨some 11, none, (.ofA (.mv (.tmp 41)))⟩
  .done))))))))
 .ret))))))
def r79 : List XR := [.cell 10 (some 22), .tmp 11]
theorem fn79 : FnX Tryz.prog 79 EFF 42 x79 r79 := ⟨_, Tryz.func79, by kernel_rfl, by kernel_rfl, by kernel_rfl, by kernel_rfl⟩
-- (*almshouse/house.House).free (1 parameters)
def x80 : XC := (.seq (.tree (.seq ⟨some 2, none, (.ofA (.mv (.cst (.v (.slice none 0 0)))))⟩
  .done))
 (.seq (.tree (.take ⟨some 3, none, (.ofA (.mv (.tmp 0)))⟩
  (.take ⟨some 4, none, (.ofA (.nilc (.tmp 3)))⟩
  (.take ⟨some 5, none, (.ofA (.faddr 3 (.tmp 4)))⟩
  (.take ⟨some 6, none, (.ofA (.load (some 22) (.tmp 5)))⟩
  (.take ⟨some 7, none, (.ofA (.mv (.tmp 0)))⟩
  (.take ⟨some 8, none, (.ofA (.nilc (.tmp 7)))⟩
  (.take ⟨some 9, none, (.ofA (.faddr 0 (.tmp 8)))⟩
  (.take ⟨some 10, none, (.ofA (.load none (.tmp 9)))⟩
  (.take ⟨some 12, none, (.ofA (.mv (.tmp 0)))⟩
  (.take ⟨some 13, none, (.ofA (.nilc (.tmp 12)))⟩
  (.take ⟨some 14, none, (.ofA (.faddr 0 (.tmp 13)))⟩
  (.take ⟨some 15, none, (.ofA (.load none (.tmp 14)))⟩
  (.take ⟨some 16, none, (.ofA (.mkbnd 126 [(.tmp 15)]))⟩
  (.act true [(⟨some 11, none, (.call (.cst (.fn 130 [])) [(.tmp 10)])⟩,
 (.act true [(⟨some 17, none, (.call (.cst (.fn 145 [])) [(.tmp 6), (.tmp 11), (.tmp 16)])⟩,
 (.take ⟨some 2, none, (.ofA (.mv (.tmp 17)))⟩
  .done))]))])))))))))))))))
 .ret))
def r80 : List XR := [.tmp 2]
theorem fn80 : FnX Tryz.prog 80 EFF 18 x80 r80 := ⟨_, Tryz.func80, by kernel_rfl, by kernel_rfl, by kernel_rfl, by kernel_rfl⟩
-- almshouse/rule.Total (3 parameters)
def x81 : XC := (.seq (.tree (.seq ⟨some 6, none, (.ofA (.mv (.cst (.v (.int .i64 0)))))⟩
  .done))
 (.seq (.seq (.tree (.seq ⟨some 7, none, (.ofA (.mv (.tmp 0)))⟩
  (.seq ⟨some 8, none, (.ofA (.mv (.tmp 1)))⟩
  (.seq ⟨some 9, none, (.call (.cst (.fn 142 [])) [(.tmp 7), (.tmp 8)])⟩
  (.seq ⟨some 10, none, (.ofA (.bin .neq (.tmp 9) (.cst (.v (.int .i64 0)))))⟩
  (.seq ⟨some 11, none, (.ofA (.mv (.tmp 10)))⟩
  (.seq ⟨some 12, some (11, false), (.ofA (.mv (.tmp 2)))⟩
  (.seq ⟨some 13, some (11, false), (.call (.cst (.fn 146 [])) [(.tmp 12)])⟩
  (.seq ⟨some 14, some (11, false), (.ofA (.un .not (.tmp 13)))⟩
  (.seq ⟨some 15, none, (.ofA (.pick (.tmp 11) (.cst (.v (.bool true))) (.tmp 14)))⟩
  .done))))))))))
 (.cond (.tmp 15)
 (.seq (.tree (.seq ⟨some 6, none, (.ofA (.mv (.cst (.v (.int .i64 0)))))⟩
  .done))
 .ret)
 .skip))
 (.seq (.tree (.seq ⟨some 16, none, (.ofA (.mv (.tmp 0)))⟩
  (.seq ⟨some 17, none, (.ofA (.mv (.tmp 2)))⟩
  (.seq ⟨some 18, none, (.call (.cst (.fn 147 [])) [(.tmp 16), (.tmp 17)])⟩
  (.seq ⟨some 19, none, (.ofA (.mv (.tmp 1)))⟩
  (.seq ⟨some 20, none, (.ofA (.bin .add (.tmp 18) (.tmp 19)))⟩
  (.seq ⟨some 6, none, (.ofA (.mv (.tmp 20)))⟩
  .done)))))))
 .ret)))
def r81 : List XR := [.tmp 6]
theorem fn81 : FnX Tryz.prog 81 EFF 21 x81 r81 := ⟨_, Tryz.func81, by kernel_rfl, by kernel_rfl, by kernel_rfl, by kernel_rfl⟩
-- (*almshouse/house.House).pages (1 parameters)
def x82 : XC := (.seq (.tree (.seq ⟨some 2, none, (.ofA (.mv (.cst (.v (.int .i64 0)))))⟩
  .done))
 (.seq (.tree (.seq ⟨some 3, none, (.ofA (.mv (.tmp 0)))⟩
  (.seq ⟨some 4, none, (.ofA (.nilc (.tmp 3)))⟩
  (.seq ⟨some 5, none, (.ofA (.faddr 0 (.tmp 4)))⟩
  (.seq ⟨some 6, none, (.ofA (.load none (.tmp 5)))⟩
  (.seq ⟨some 7, none, (.call (.cst (.fn 54 [])) [(.tmp 6)])⟩
  (.seq ⟨some 8, none, (.ofA (.field 3 none (.tmp 7)))⟩
  (.seq ⟨some 2, none, (.ofA (.mv (.tmp 8)))⟩
  .done))))))))
 .ret))
def r82 : List XR := [.tmp 2]
theorem fn82 : FnX Tryz.prog 82 EFF 9 x82 r82 := ⟨_, Tryz.func82, by kernel_rfl, by kernel_rfl, by kernel_rfl, by kernel_rfl⟩
-- (*almshouse/house.House).blank (2 parameters)
def x83 : XC := (.seq (.tree (.seq ⟨some 4, none, (.ofA (.mv (.cst (.v (.int .i64 0)))))⟩
  .done))
 (.seq (.seq (.tree (.seq ⟨some 8, none, (.ofA (.mv (.tmp 1)))⟩
  (.seq ⟨some 9, none, (.ofA (.len (.tmp 8)))⟩
  (.seq ⟨some 10, none, (.ofA (.mv (.cst (.v (.int .i64 0)))))⟩
  .done))))
 (.block 0 (.loop (.seq (.tree (.seq ⟨some 11, none, (.ofA (.bin .lss (.tmp 10) (.tmp 9)))⟩
  .done))
 (.seq (.cond (.tmp 11)
 .skip
 (.exit 0))
 (.seq (.block 1 (.seq (.tree (.seq ⟨some 12, none, (.ofA (.isl 1 (.tmp 8) (.tmp 10)))⟩
  (.seq ⟨some 13, none, (.ofA (.load none (.tmp 12)))⟩
  (.seq ⟨some 6, none, (.ofA (.mv (.tmp 13)))⟩
  .done))))
 (.seq (.seq (.tree (.seq ⟨some 14, none, (.ofA (.mv (.tmp 0)))⟩
  (.seq ⟨some 15, none, (.ofA (.nilc (.tmp 14)))⟩
  (.seq ⟨some 16, none, (.ofA (.faddr 0 (.tmp 15)))⟩
  (.seq ⟨some 17, none, (.ofA (.load none (.tmp 16)))⟩
  (.seq ⟨some 18, none, (.ofA (.mv (.tmp 6)))⟩
  (.seq ⟨some 19, none, (.call (.cst (.fn 136 [])) [(.tmp 17), (.tmp 18)])⟩
  .done)))))))
 (.cond (.tmp 19)
 (.exit 1)
 .skip))
 (.seq (.tree (.seq ⟨some 20, none, (.ofA (.mv (.tmp 0)))⟩
  (.seq ⟨some 21, none, (.ofA (.nilc (.tmp 20)))⟩
  (.seq ⟨some 22, none, (.ofA (.faddr 0 (.tmp 21)))⟩
  (.seq ⟨some 23, none, (.ofA (.load none (.tmp 22)))⟩
  (.seq ⟨some 24, none, (.ofA (.mv (.tmp 6)))⟩
  (.seq ⟨some 25, none, (.call (.cst (.fn 134 [])) [(.tmp 23), (.cst (.v (.int .i64 4))), (.tmp 24)])⟩
  (.seq ⟨some 7, none, (.ofA (.mv (.tmp 25)))⟩
  .done))))))))
 (.seq (.tree (.seq ⟨some 26, none, (.ofA (.mv (.tmp 7)))⟩
  (.seq ⟨some 27, none, (.ofA (.bin .neq (.tmp 26) (.cst (.v (.int .i64 0)))))⟩
  .done)))
 (.cond (.tmp 27)
 (.seq (.tree (.seq ⟨some 28, none, (.ofA (.mv (.tmp 7)))⟩
  (.seq ⟨some 4, none, (.ofA (.mv (.tmp 28)))⟩
  .done)))
 .ret)
 .skip))))))
 (.tree (.seq ⟨some 29, none, (.ofA (.bin .add (.tmp 10) (.cst (.v (.int .i64 1)))))⟩
  (.seq ⟨some 10, none, (.ofA (.mv (.tmp 29)))⟩
  .done)))))))))
 (.seq (.tree (.seq ⟨some 4, none, (.ofA (.mv (.cst (.v (.int .i64 0)))))⟩
  .done))
 .ret)))
def r83 : List XR := [.tmp 4]
theorem fn83 : FnX Tryz.prog 83 EFF 30 x83 r83 := ⟨_, Tryz.func83, by kernel_rfl, by kernel_rfl, by kernel_rfl, by kernel_rfl⟩
-- (*almshouse/house.House).keep (4 parameters)
def x84 : XC := (.seq (.tree (.seq ⟨some 5, none, (.box (.tmp 1))⟩
  (.seq ⟨some 8, none, (.ofA (.mv (.cst (.v (.int .i64 0)))))⟩
  .done)))
 (.seq (.seq (.tree (.seq ⟨some 9, none, (.ofA (.mv (.tmp 2)))⟩
  (.seq ⟨some 10, none, (.ofA (.bin .eql (.tmp 9) (.cst (.v (.int .i64 0)))))⟩
  .done)))
 (.cond (.tmp 10)
 (.tree (.take ⟨some 11, none, (.ofA (.mv (.tmp 0)))⟩
  (.take ⟨some 12, none, (.ofA (.nilc (.tmp 11)))⟩
  (.take ⟨some 13, none, (.ofA (.faddr 0 (.tmp 12)))⟩
  (.take ⟨some 14, none, (.ofA (.load none (.tmp 13)))⟩
  (.take ⟨some 15, none, (.ofA (.load (some 22) (.tmp 5)))⟩
  (.alt [false] [(⟨some 16, none, (.call (.cst (.fn 148 [])) [(.tmp 14), (.tmp 15)])⟩,
 (.take ⟨some 2, none, (.ofA (.mv (.tmp 16)))⟩
  .done))])))))))
 .skip))
 (.seq (.seq (.tree (.seq ⟨some 17, none, (.ofA (.mv (.tmp 2)))⟩
  (.seq ⟨some 18, none, (.ofA (.bin .eql (.tmp 17) (.cst (.v (.int .i64 0)))))⟩
  .done)))
 (.cond (.tmp 18)
 (.seq (.tree (.seq ⟨some 19, none, (.ofA (.mv (.tmp 0)))⟩
  (.seq ⟨some 20, none, (.ofA (.load (some 22) (.tmp 5)))⟩
  (.seq ⟨some 21, none, (.ofA (.nilc (.tmp 19)))⟩
  (.seq ⟨some 22, none, (.ofA (.faddr 3 (.tmp 21)))⟩
  (.seq ⟨none, none, (.store 22 (.tmp 22) (.tmp 20))⟩
  .done))))))
 (.tree (.seq ⟨some 23, none, (.ofA (.mv (.tmp 3)))⟩
  (.seq ⟨some 24, none, (.call (.tmp 23) [])⟩
  .done))))
 .skip))
 (.seq (.tree (.seq ⟨some 25, none, (.ofA (.mv (.tmp 0)))⟩
  (.seq ⟨some 26, none, (.call (.cst (.fn 73 [])) [(.tmp 25)])⟩
  .done)))
 (.seq (.tree (.seq ⟨some 27, none, (.ofA (.mv (.tmp 2)))⟩
  (.seq ⟨some 8, none, (.ofA (.mv (.tmp 27)))⟩
  .done)))
 .ret)))))
def r84 : List XR := [.tmp 8]
theorem fn84 : FnX Tryz.prog 84 EFF 28 x84 r84 := ⟨_, Tryz.func84, by kernel_rfl, by kernel_rfl, by kernel_rfl, by kernel_rfl⟩
-- (*almshouse/house.House).Create$1 (0 parameters)
def x85 : XC := (.seq (.tree (.take ⟨some 6, none, (.ofA (.load none (.tmp 0)))⟩
  (.take ⟨some 7, none, (.ofA (.nilc (.tmp 6)))⟩
  (.take ⟨some 8, none, (.ofA (.faddr 0 (.tmp 7)))⟩
  (.take ⟨some 9, none, (.ofA (.load none (.tmp 8)))⟩
  (.take ⟨some 10, none, (.ofA (.load none (.tmp 1)))⟩
  (.take ⟨some 11, none, (.ofA (.load none (.tmp 1)))⟩
  (.take ⟨some 12, none, (.ofA (.faddr 2 (.tmp 2)))⟩
  (.take ⟨some 13, none, (.ofA (.iarr 4 5 (.tmp 12) (.tmp 11)))⟩
  (.take ⟨some 14, none, (.ofA (.load (some 5) (.tmp 13)))⟩
  (.act true [(⟨some 15, none, (.call (.cst (.fn 11 [])) [(.tmp 9), (.tmp 10), (.tmp 14)])⟩,
 (.take ⟨some 5, none, (.ofA (.mv (.tmp 15)))⟩
  (.take ⟨some 16, none, (.ofA (.extract 0 (.tmp 5)))⟩
  (.take ⟨some 17, none, (.ofA (.extract 1 (.tmp 5)))⟩
  (.take ⟨some 3, none, (.ofA (.mv (.tmp 16)))⟩
  (.take ⟨some 4, none, (.ofA (.mv (.tmp 17)))⟩
  .done))))))])))))))))))
 (.tree (.take ⟨some 18, none, (.ofA (.load none (.tmp 0)))⟩
  (.take ⟨some 19, none, (.ofA (.load none (.tmp 1)))⟩
  (.take ⟨some 20, none, (.ofA (.mv (.tmp 3)))⟩
  (.take ⟨some 23, none, (.ofA (.nilc (.tmp 18)))⟩
  (.take ⟨some 24, none, (.ofA (.faddr 25 (.tmp 23)))⟩
  (.alt [true] [(⟨some 21, none, (.call (.cst (.fn 86 [])) [])⟩,
 (.alt [true] [(⟨some 22, none, (.build [(.v (.pointer none)), (.v (.pointer none))] [(0, 1, (.tmp 20)), (1, 1, (.tmp 21))])⟩,
 (.take ⟨some 25, none, (.ofA (.iarr 4 2 (.tmp 24) (.tmp 19)))⟩
  (.alt [false] [(⟨none, none, (.store 2 (.tmp 25) (.tmp 22))⟩,
 .done)])))]))]))))))))
def r85 : List XR := []
theorem fn85 : FnX Tryz.prog 85 EFF 26 x85 r85 := ⟨_, Tryz.func85, by kernel_rfl, by kernel_rfl, by kernel_rfl, by kernel_rfl⟩
-- almshouse/queue.New (0 parameters)
def x86 : XC := (.seq (.tree (.seq ⟨some 0, none, (.ofA (.mv (.cst (.v (.pointer none)))))⟩
  .done))
 (.seq (.tree (.seq ⟨some 1, none, (.build [(.v (.slice none 0 0)), (.v (.slice none 0 0))] [])⟩
  (.seq ⟨some 2, none, (.box (.tmp 1))⟩
  (.seq ⟨some 0, none, (.ofA (.mv (.tmp 2)))⟩
  .done))))
 .ret))
def r86 : List XR := [.tmp 0]
theorem fn86 : FnX Tryz.prog 86 EFF 3 x86 r86 := ⟨_, Tryz.func86, by kernel_rfl, by kernel_rfl, by kernel_rfl, by kernel_rfl⟩
-- (*almshouse/house.House).Destroy$1 (0 parameters)
def x88 : XC := (.seq (.tree (.take ⟨some 2, none, (.ofA (.load none (.tmp 0)))⟩
  (.take ⟨some 3, none, (.ofA (.load none (.tmp 1)))⟩
  (.take ⟨some 4, none, (.ofA (.nilc (.tmp 2)))⟩
  (.take ⟨some 5, none, (.ofA (.faddr 25 (.tmp 4)))⟩
  (.take ⟨some 6, none, (.ofA (.iarr 4 2 (.tmp 5) (.tmp 3)))⟩
  (.take ⟨some 7, none, (.ofA (.faddr 0 (.tmp 6)))⟩
  (.alt [false] [(⟨none, none, (.store 1 (.tmp 7) (.cst (.v (.pointer none))))⟩,
 .done)]))))))))
 (.tree (.take ⟨some 8, none, (.ofA (.load none (.tmp 0)))⟩
  (.take ⟨some 9, none, (.ofA (.load none (.tmp 1)))⟩
  (.take ⟨some 10, none, (.ofA (.nilc (.tmp 8)))⟩
  (.take ⟨some 11, none, (.ofA (.faddr 25 (.tmp 10)))⟩
  (.take ⟨some 12, none, (.ofA (.iarr 4 2 (.tmp 11) (.tmp 9)))⟩
  (.take ⟨some 13, none, (.ofA (.faddr 1 (.tmp 12)))⟩
  (.take ⟨some 14, none, (.ofA (.load none (.tmp 13)))⟩
  (.act true [(⟨some 15, none, (.call (.cst (.fn 89 [])) [(.tmp 14)])⟩,
 .done)]))))))))))
def r88 : List XR := []
theorem fn88 : FnX Tryz.prog 88 EFF 16 x88 r88 := ⟨_, Tryz.func88, by kernel_rfl, by kernel_rfl, by kernel_rfl, by kernel_rfl⟩
-- (*almshouse/house.House).Resize$1 (0 parameters)
def x93 : XC := (.tree (.seq ⟨some 3, none, (.ofA (.load none (.tmp 0)))⟩
  (.seq ⟨some 4, none, (.ofA (.load none (.tmp 1)))⟩
  (.seq ⟨some 5, none, (.ofA (.load none (.tmp 2)))⟩
  (.seq ⟨some 6, none, (.call (.cst (.fn 9 [])) [(.tmp 3), (.tmp 4), (.tmp 5)])⟩
  .done)))))
def r93 : List XR := []
theorem fn93 : FnX Tryz.prog 93 EFF 7 x93 r93 := ⟨_, Tryz.func93, by kernel_rfl, by kernel_rfl, by kernel_rfl, by kernel_rfl⟩
-- (*almshouse/house.House).Swap$1 (0 parameters)
def x95 : XC := (.seq (.tree (.take ⟨some 7, none, (.ofA (.load none (.tmp 0)))⟩
  (.take ⟨some 8, none, (.ofA (.load none (.tmp 1)))⟩
  (.take ⟨some 9, none, (.ofA (.load none (.tmp 3)))⟩
  (.take ⟨some 10, none, (.ofA (.faddr 2 (.tmp 2)))⟩
  (.take ⟨some 11, none, (.ofA (.iarr 4 5 (.tmp 10) (.tmp 9)))⟩
  (.take ⟨some 12, none, (.ofA (.faddr 4 (.tmp 11)))⟩
  (.take ⟨some 13, none, (.ofA (.load none (.tmp 12)))⟩
  (.take ⟨some 14, none, (.ofA (.load none (.tmp 1)))⟩
  (.take ⟨some 15, none, (.ofA (.isl 1 (.tmp 13) (.tmp 14)))⟩
  (.take ⟨some 16, none, (.ofA (.load none (.tmp 15)))⟩
  (.act true [(⟨some 17, none, (.call (.cst (.fn 10 [])) [(.tmp 7), (.tmp 8), (.tmp 16)])⟩,
 .done)]))))))))))))
 (.tree (.take ⟨some 18, none, (.ofA (.load none (.tmp 4)))⟩
  (.take ⟨some 19, none, (.ofA (.load none (.tmp 5)))⟩
  (.take ⟨some 20, none, (.ofA (.load none (.tmp 6)))⟩
  (.take ⟨some 21, none, (.ofA (.faddr 2 (.tmp 2)))⟩
  (.take ⟨some 22, none, (.ofA (.iarr 4 5 (.tmp 21) (.tmp 20)))⟩
  (.take ⟨some 23, none, (.ofA (.faddr 4 (.tmp 22)))⟩
  (.take ⟨some 24, none, (.ofA (.load none (.tmp 23)))⟩
  (.take ⟨some 25, none, (.ofA (.load none (.tmp 5)))⟩
  (.take ⟨some 26, none, (.ofA (.isl 1 (.tmp 24) (.tmp 25)))⟩
  (.take ⟨some 27, none, (.ofA (.load none (.tmp 26)))⟩
  (.act true [(⟨some 28, none, (.call (.cst (.fn 10 [])) [(.tmp 18), (.tmp 19), (.tmp 27)])⟩,
 .done)])))))))))))))
def r95 : List XR := []
theorem fn95 : FnX Tryz.prog 95 EFF 29 x95 r95 := ⟨_, Tryz.func95, by kernel_rfl, by kernel_rfl, by kernel_rfl, by kernel_rfl⟩
-- (*almshouse/queue.Queue).Submit (2 parameters)
def x96 : XC := (.seq (.tree (.seq ⟨some 3, none, (.box (.tmp 1))⟩
  (.seq ⟨some 4, none, (.ofA (.mv (.cst (.v (.int .i64 0)))))⟩
  .done)))
 (.seq (.seq (.tree (.seq ⟨some 6, none, (.ofA (.mv (.tmp 0)))⟩
  (.seq ⟨some 7, none, (.ofA (.eqn false 1 (.tmp 6) (.cst (.v (.pointer none)))))⟩
  .done)))
 (.cond (.tmp 7)
 (.seq (.tree (.seq ⟨some 4, none, (.ofA (.mv (.cst (.v (.int .i64 1)))))⟩
  .done))
 .ret)
 .skip))
 (.seq (.seq (.tree (.seq ⟨some 8, none, (.ofA (.load (some 3) (.tmp 3)))⟩
  (.seq ⟨some 9, none, (.call (.cst (.fn 153 [])) [(.tmp 8)])⟩
  (.seq ⟨some 5, none, (.ofA (.mv (.tmp 9)))⟩
  .done))))
 (.seq (.tree (.seq ⟨some 10, none, (.ofA (.mv (.tmp 5)))⟩
  (.seq ⟨some 11, none, (.ofA (.bin .neq (.tmp 10) (.cst (.v (.int .i64 0)))))⟩
  .done)))
 (.cond (.tmp 11)
 (.seq (.tree (.seq ⟨some 12, none, (.ofA (.mv (.tmp 5)))⟩
  (.seq ⟨some 4, none, (.ofA (.mv (.tmp 12)))⟩
  .done)))
 .ret)
 .skip)))
 (.seq (.seq (.tree (.seq ⟨some 13, none, (.ofA (.mv (.tmp 0)))⟩
  (.seq ⟨some 14, none, (.ofA (.nilc (.tmp 13)))⟩
  (.seq ⟨some 15, none, (.ofA (.faddr 0 (.tmp 14)))⟩
  (.seq ⟨some 16, none, (.ofA (.load none (.tmp 15)))⟩
  (.seq ⟨some 17, none, (.ofA (.len (.tmp 16)))⟩
  (.seq ⟨some 18, none, (.ofA (.bin .geq (.tmp 17) (.cst (.v (.int .i64 8)))))⟩
  .done)))))))
 (.cond (.tmp 18)
 (.seq (.tree (.seq ⟨some 4, none, (.ofA (.mv (.cst (.v (.int .i64 8)))))⟩
  .done))
 .ret)
 .skip))
 (.seq (.tree (.take ⟨some 19, none, (.ofA (.mv (.tmp 0)))⟩
  (.take ⟨some 20, none, (.ofA (.mv (.tmp 0)))⟩
  (.take ⟨some 21, none, (.ofA (.nilc (.tmp 20)))⟩
  (.take ⟨some 22, none, (.ofA (.faddr 0 (.tmp 21)))⟩
  (.take ⟨some 23, none, (.ofA (.load none (.tmp 22)))⟩
  (.take ⟨some 24, none, (.ofA (.load (some 3) (.tmp 3)))⟩
  (.alt [true] [(⟨some 25, none, (.buildSl 3 1 [(.v (.int .i64 0)), (.v (.int .i64 0)), (.v (.string ⟨#[]⟩))] [(0, 3, (.tmp 24))])⟩,
 (.alt [false] [(⟨some 26, none, (.app 3 32 (.tmp 23) (.tmp 25))⟩,
 (.take ⟨some 27, none, (.ofA (.nilc (.tmp 19)))⟩
  (.take ⟨some 28, none, (.ofA (.faddr 0 (.tmp 27)))⟩
  (.alt [false] [(⟨none, none, (.store 1 (.tmp 28) (.tmp 26))⟩,
 .done)]))))]))]))))))))
 (.seq (.tree (.seq ⟨some 4, none, (.ofA (.mv (.cst (.v (.int .i64 0)))))⟩
  .done))
 .ret))))))
def r96 : List XR := [.tmp 4]
theorem fn96 : FnX Tryz.prog 96 EFF 29 x96 r96 := ⟨_, Tryz.func96, by kernel_rfl, by kernel_rfl, by kernel_rfl, by kernel_rfl⟩
-- (*almshouse/power.Power).Gone (1 parameters)
def x99 : XC := (.seq (.tree (.seq ⟨some 2, none, (.ofA (.mv (.cst (.v (.bool false)))))⟩
  .done))
 (.seq (.tree (.seq ⟨some 3, none, (.ofA (.mv (.tmp 0)))⟩
  (.seq ⟨some 4, none, (.ofA (.eqn false 1 (.tmp 3) (.cst (.v (.pointer none)))))⟩
  (.seq ⟨some 5, none, (.ofA (.mv (.tmp 4)))⟩
  (.seq ⟨some 6, some (5, false), (.ofA (.mv (.tmp 0)))⟩
  (.seq ⟨some 7, some (5, false), (.ofA (.nilc (.tmp 6)))⟩
  (.seq ⟨some 8, some (5, false), (.ofA (.faddr 1 (.tmp 7)))⟩
  (.seq ⟨some 9, some (5, false), (.call (.cst (.fn 156 [])) [(.tmp 8)])⟩
  (.seq ⟨some 10, none, (.ofA (.pick (.tmp 5) (.cst (.v (.bool true))) (.tmp 9)))⟩
  (.seq ⟨some 2, none, (.ofA (.mv (.tmp 10)))⟩
  .done))))))))))
 .ret))
def r99 : List XR := [.tmp 2]
theorem fn99 : FnX Tryz.prog 99 EFF 11 x99 r99 := ⟨_, Tryz.func99, by kernel_rfl, by kernel_rfl, by kernel_rfl, by kernel_rfl⟩
-- (*almshouse/queue.Queue).Next (1 parameters)
def x100 : XC := (.seq (.tree (.seq ⟨some 2, none, (.alloc [(.v (.int .i64 0)), (.v (.int .i64 0)), (.v (.string ⟨#[]⟩))])⟩
  (.seq ⟨some 3, none, (.ofA (.mv (.cst (.v (.bool false)))))⟩
  .done)))
 (.seq (.seq (.tree (.seq ⟨some 5, none, (.ofA (.mv (.tmp 0)))⟩
  (.seq ⟨some 6, none, (.call (.cst (.fn 78 [])) [(.tmp 5)])⟩
  (.seq ⟨some 7, none, (.ofA (.bin .eql (.tmp 6) (.cst (.v (.int .i64 0)))))⟩
  .done))))
 (.cond (.tmp 7)
 (.seq (.tree (.seq ⟨some 8, none, (.build [(.v (.int .i64 0)), (.v (.int .i64 0)), (.v (.string ⟨#[]⟩))] [])⟩
  (.seq ⟨none, none, (.store 3 (.tmp 2) (.tmp 8))⟩
  (.seq ⟨some 3, none, (.ofA (.mv (.cst (.v (.bool false)))))⟩
  .done))))
 .ret)
 .skip))
 (.seq (.tree (.seq ⟨some 9, none, (.ofA (.mv (.tmp 0)))⟩
  (.seq ⟨some 10, none, (.ofA (.nilc (.tmp 9)))⟩
  (.seq ⟨some 11, none, (.ofA (.faddr 0 (.tmp 10)))⟩
  (.seq ⟨some 12, none, (.ofA (.load none (.tmp 11)))⟩
  (.seq ⟨some 13, none, (.ofA (.isl 3 (.tmp 12) (.cst (.v (.int .i64 0)))))⟩
  (.seq ⟨some 14, none, (.ofA (.load (some 3) (.tmp 13)))⟩
  (.seq ⟨some 4, none, (.alloc [(.v (.int .i64 0)), (.v (.int .i64 0)), (.v (.string ⟨#[]⟩))])⟩
  (.seq ⟨none, none, (.store 3 (.tmp 4) (.tmp 14))⟩
  .done)))))))))
 (.seq (.tree (.seq ⟨some 15, none, (.ofA (.mv (.tmp 0)))⟩
  (.seq ⟨some 16, none, (.ofA (.mv (.tmp 0)))⟩
  (.seq ⟨some 17, none, (.ofA (.nilc (.tmp 16)))⟩
  (.seq ⟨some 18, none, (.ofA (.faddr 0 (.tmp 17)))⟩
  (.seq ⟨some 19, none, (.ofA (.load none (.tmp 18)))⟩
  (.seq ⟨some 20, none, (.ofA (.slc 3 (.tmp 19) (some (.cst (.v (.int .i64 1)))) none))⟩
  (.seq ⟨some 21, none, (.ofA (.nilc (.tmp 15)))⟩
  (.seq ⟨some 22, none, (.ofA (.faddr 0 (.tmp 21)))⟩
  (.seq ⟨none, none, (.store 1 (.tmp 22) (.tmp 20))⟩
  .done))))))))))
 (.seq (.tree (.seq ⟨some 23, none, (.ofA (.load (some 3) (.tmp 4)))⟩
  (.seq ⟨none, none, (.store 3 (.tmp 2) (.tmp 23))⟩
  (.seq ⟨some 3, none, (.ofA (.mv (.cst (.v (.bool true)))))⟩
  .done))))
 .ret)))))
def r100 : List XR := [.cell 2 (some 3), .tmp 3]
theorem fn100 : FnX Tryz.prog 100 EFF 24 x100 r100 := ⟨_, Tryz.func100, by kernel_rfl, by kernel_rfl, by kernel_rfl, by kernel_rfl⟩
-- almshouse/house.do (2 parameters)
def x101 : XC := (.seq (.tree (.seq ⟨some 3, none, (.box (.tmp 1))⟩
  (.seq ⟨some 4, none, (.ofA (.mv (.cst (.v (.string ⟨#[]⟩)))))⟩
  (.seq ⟨some 5, none, (.ofA (.mv (.cst (.v (.int .i64 0)))))⟩
  .done))))
 (.seq (.seq (.tree (.seq ⟨some 6, none, (.ofA (.faddr 0 (.tmp 3)))⟩
  (.seq ⟨some 7, none, (.ofA (.load none (.tmp 6)))⟩
  .done)))
 (.block 0 (.seq (.tree (.seq ⟨some 9, none, (.ofA (.bin .eql (.tmp 7) (.cst (.v (.int .i64 1)))))⟩
  (.seq ⟨some 8, none, (.ofA (.mv (.tmp 9)))⟩
  .done)))
 (.cond (.tmp 8)
 (.seq (.tree (.seq ⟨some 10, none, (.ofA (.mv (.tmp 0)))⟩
  (.seq ⟨some 11, none, (.ofA (.faddr 1 (.tmp 3)))⟩
  (.seq ⟨some 12, none, (.ofA (.load none (.tmp 11)))⟩
  (.seq ⟨some 13, none, (.call (.cst (.fn 7 [])) [(.tmp 10), (.tmp 12)])⟩
  (.seq ⟨some 14, none, (.ofA (.extract 0 (.tmp 13)))⟩
  (.seq ⟨some 15, none, (.ofA (.extract 1 (.tmp 13)))⟩
  (.seq ⟨some 4, none, (.ofA (.mv (.tmp 14)))⟩
  (.seq ⟨some 5, none, (.ofA (.mv (.tmp 15)))⟩
  .done)))))))))
 .ret)
 (.seq (.tree (.seq ⟨some 17, none, (.ofA (.bin .eql (.tmp 7) (.cst (.v (.int .i64 2)))))⟩
  (.seq ⟨some 16, none, (.ofA (.mv (.tmp 17)))⟩
  .done)))
 (.cond (.tmp 16)
 (.seq (.tree (.seq ⟨some 18, none, (.ofA (.mv (.tmp 0)))⟩
  (.seq ⟨some 19, none, (.ofA (.faddr 1 (.tmp 3)))⟩
  (.seq ⟨some 20, none, (.ofA (.load none (.tmp 19)))⟩
  (.seq ⟨some 21, none, (.ofA (.faddr 2 (.tmp 3)))⟩
  (.seq ⟨some 22, none, (.ofA (.load none (.tmp 21)))⟩
  (.seq ⟨some 23, none, (.call (.cst (.fn 12 [])) [(.tmp 18), (.tmp 20), (.tmp 22)])⟩
  (.seq ⟨some 4, none, (.ofA (.mv (.cst (.v (.string ⟨#[]⟩)))))⟩
  (.seq ⟨some 5, none, (.ofA (.mv (.tmp 23)))⟩
  .done)))))))))
 .ret)
 (.seq (.tree (.seq ⟨some 25, none, (.ofA (.bin .eql (.tmp 7) (.cst (.v (.int .i64 3)))))⟩
  (.seq ⟨some 24, none, (.ofA (.mv (.tmp 25)))⟩
  .done)))
 (.cond (.tmp 24)
 (.seq (.tree (.seq ⟨some 26, none, (.ofA (.mv (.tmp 0)))⟩
  (.seq ⟨some 27, none, (.ofA (.faddr 1 (.tmp 3)))⟩
  (.seq ⟨some 28, none, (.ofA (.load none (.tmp 27)))⟩
  (.seq ⟨some 29, none, (.call (.cst (.fn 13 [])) [(.tmp 26), (.tmp 28)])⟩
  (.seq ⟨some 4, none, (.ofA (.mv (.cst (.v (.string ⟨#[]⟩)))))⟩
  (.seq ⟨some 5, none, (.ofA (.mv (.tmp 29)))⟩
  .done)))))))
 .ret)
 .skip))))))))
 (.seq (.tree (.seq ⟨some 30, none, (.ofA (.mv (.tmp 0)))⟩
  (.seq ⟨some 31, none, (.call (.cst (.fn 14 [])) [(.tmp 30)])⟩
  (.seq ⟨some 4, none, (.ofA (.mv (.cst (.v (.string ⟨#[]⟩)))))⟩
  (.seq ⟨some 5, none, (.ofA (.mv (.tmp 31)))⟩
  .done)))))
 .ret)))
def r101 : List XR := [.tmp 4, .tmp 5]
theorem fn101 : FnX Tryz.prog 101 EFF 32 x101 r101 := ⟨_, Tryz.func101, by kernel_rfl, by kernel_rfl, by kernel_rfl, by kernel_rfl⟩
-- (*almshouse/queue.Queue).Done (2 parameters)
def x102 : XC := (.seq (.tree (.seq ⟨some 3, none, (.box (.tmp 1))⟩
  .done))
 (.seq (.tree (.seq ⟨some 4, none, (.ofA (.mv (.tmp 0)))⟩
  (.seq ⟨some 5, none, (.ofA (.eqn true 1 (.tmp 4) (.cst (.v (.pointer none)))))⟩
  .done)))
 (.cond (.tmp 5)
 (.tree (.take ⟨some 6, none, (.ofA (.mv (.tmp 0)))⟩
  (.take ⟨some 7, none, (.ofA (.mv (.tmp 0)))⟩
  (.take ⟨some 8, none, (.ofA (.nilc (.tmp 7)))⟩
  (.take ⟨some 9, none, (.ofA (.faddr 1 (.tmp 8)))⟩
  (.take ⟨some 10, none, (.ofA (.load none (.tmp 9)))⟩
  (.take ⟨some 11, none, (.ofA (.load (some 3) (.tmp 3)))⟩
  (.alt [true] [(⟨some 12, none, (.buildSl 3 1 [(.v (.int .i64 0)), (.v (.int .i64 0)), (.v (.string ⟨#[]⟩))] [(0, 3, (.tmp 11))])⟩,
 (.alt [false] [(⟨some 13, none, (.app 3 32 (.tmp 10) (.tmp 12))⟩,
 (.take ⟨some 14, none, (.ofA (.nilc (.tmp 6)))⟩
  (.take ⟨some 15, none, (.ofA (.faddr 1 (.tmp 14)))⟩
  (.alt [false] [(⟨none, none, (.store 1 (.tmp 15) (.tmp 13))⟩,
 .done)]))))]))]))))))))
 .skip)))
def r102 : List XR := []
theorem fn102 : FnX Tryz.prog 102 EFF 16 x102 r102 := ⟨_, Tryz.func102, by kernel_rfl, by kernel_rfl, by kernel_rfl, by kernel_rfl⟩
-- (*almshouse/queue.Queue).All (1 parameters)
def x104 : XC := (.seq (.tree (.seq ⟨some 2, none, (.ofA (.mv (.cst (.v (.slice none 0 0)))))⟩
  .done))
 (.seq (.seq (.tree (.seq ⟨some 3, none, (.ofA (.mv (.tmp 0)))⟩
  (.seq ⟨some 4, none, (.ofA (.eqn false 1 (.tmp 3) (.cst (.v (.pointer none)))))⟩
  .done)))
 (.cond (.tmp 4)
 (.seq (.tree (.seq ⟨some 2, none, (.ofA (.mv (.cst (.v (.slice none 0 0)))))⟩
  .done))
 .ret)
 .skip))
 (.seq (.tree (.seq ⟨some 5, none, (.ofA (.mv (.tmp 0)))⟩
  (.seq ⟨some 6, none, (.ofA (.nilc (.tmp 5)))⟩
  (.seq ⟨some 7, none, (.ofA (.faddr 1 (.tmp 6)))⟩
  (.seq ⟨some 8, none, (.ofA (.load none (.tmp 7)))⟩
  (.seq ⟨some 9, none, (.call (.cst (.fn 157 [])) [(.tmp 8)])⟩
  (.seq ⟨some 2, none, (.ofA (.mv (.tmp 9)))⟩
  .done)))))))
 .ret)))
def r104 : List XR := [.tmp 2]
theorem fn104 : FnX Tryz.prog 104 EFF 10 x104 r104 := ⟨_, Tryz.func104, by kernel_rfl, by kernel_rfl, by kernel_rfl, by kernel_rfl⟩
-- almshouse/ledger.Twin (1 parameters)
def x105 : XC := (.seq (.tree (.seq ⟨some 1, none, (.box (.tmp 0))⟩
  (.seq ⟨some 2, none, (.alloc [(.v (.int .i64 0)), (.v (.int .i64 0)), (.v (.bool false)), (.v (.int .i64 0)), (.v (.int .i64 0)), (.v (.int .i64 0)), (.v (.slice none 0 0)), (.v (.bool false)), (.v (.int .i64 0)), (.v (.int .i64 0)), (.v (.int .i64 0)), (.v (.slice none 0 0)), (.v (.bool false)), (.v (.int .i64 0)), (.v (.int .i64 0)), (.v (.int .i64 0)), (.v (.slice none 0 0)), (.v (.bool false)), (.v (.int .i64 0)), (.v (.int .i64 0)), (.v (.int .i64 0)), (.v (.slice none 0 0))])⟩
  .done)))
 (.seq (.seq (.tree (.seq ⟨some 4, none, (.ofA (.mv (.cst (.v (.int .i64 0)))))⟩
  .done))
 (.block 0 (.loop (.seq (.tree (.seq ⟨some 5, none, (.ofA (.bin .lss (.tmp 4) (.cst (.v (.int .i64 4)))))⟩
  .done))
 (.seq (.cond (.tmp 5)
 .skip
 (.exit 0))
 (.seq (.block 1 (.seq (.tree (.seq ⟨some 6, none, (.ofA (.mv (.tmp 4)))⟩
  (.seq ⟨some 3, none, (.ofA (.mv (.tmp 6)))⟩
  .done)))
 (.tree (.seq ⟨some 7, none, (.ofA (.mv (.tmp 3)))⟩
  (.seq ⟨some 8, none, (.ofA (.mv (.tmp 3)))⟩
  (.seq ⟨some 9, none, (.ofA (.faddr 2 (.tmp 1)))⟩
  (.seq ⟨some 10, none, (.ofA (.iarr 4 5 (.tmp 9) (.tmp 8)))⟩
  (.seq ⟨some 11, none, (.ofA (.faddr 4 (.tmp 10)))⟩
  (.seq ⟨some 12, none, (.ofA (.load none (.tmp 11)))⟩
  (.seq ⟨some 13, none, (.call (.cst (.fn 55 [])) [(.tmp 12)])⟩
  (.seq ⟨some 14, none, (.ofA (.faddr 2 (.tmp 1)))⟩
  (.seq ⟨some 15, none, (.ofA (.iarr 4 5 (.tmp 14) (.tmp 7)))⟩
  (.seq ⟨some 16, none, (.ofA (.faddr 4 (.tmp 15)))⟩
  (.seq ⟨none, none, (.store 1 (.tmp 16) (.tmp 13))⟩
  .done))))))))))))))
 (.tree (.seq ⟨some 17, none, (.ofA (.bin .add (.tmp 4) (.cst (.v (.int .i64 1)))))⟩
  (.seq ⟨some 4, none, (.ofA (.mv (.tmp 17)))⟩
  .done)))))))))
 (.seq (.tree (.seq ⟨some 18, none, (.ofA (.load (some 22) (.tmp 1)))⟩
  (.seq ⟨none, none, (.store 22 (.tmp 2) (.tmp 18))⟩
  .done)))
 .ret)))
def r105 : List XR := [.cell 2 (some 22)]
theorem fn105 : FnX Tryz.prog 105 EFF 19 x105 r105 := ⟨_, Tryz.func105, by kernel_rfl, by kernel_rfl, by kernel_rfl, by kernel_rfl⟩
-- almshouse/power.New (1 parameters)
def x114 : XC := (.seq (.tree (.seq ⟨some 2, none, (.ofA (.mv (.cst (.v (.pointer none)))))⟩
  .done))
 (.seq (.tree (.seq ⟨some 4, none, (.build [(.v (.int .i64 0)), (.v (.int .u32 0)), (.v (.int .i64 0))] [])⟩
  (.seq ⟨some 5, none, (.box (.tmp 4))⟩
  (.seq ⟨some 3, none, (.ofA (.mv (.tmp 5)))⟩
  .done))))
 (.seq (.tree (.seq ⟨some 6, none, (.ofA (.mv (.tmp 3)))⟩
  (.seq ⟨some 7, none, (.ofA (.nilc (.tmp 6)))⟩
  (.seq ⟨some 8, none, (.ofA (.faddr 0 (.tmp 7)))⟩
  (.seq ⟨some 9, none, (.ofA (.mv (.tmp 0)))⟩
  (.seq ⟨some 10, none, (.call (.cst (.fn 138 [])) [(.tmp 8), (.tmp 9)])⟩
  .done))))))
 (.seq (.tree (.seq ⟨some 11, none, (.ofA (.mv (.tmp 3)))⟩
  (.seq ⟨some 2, none, (.ofA (.mv (.tmp 11)))⟩
  .done)))
 .ret))))
def r114 : List XR := [.tmp 2]
theorem fn114 : FnX Tryz.prog 114 EFF 12 x114 r114 := ⟨_, Tryz.func114, by kernel_rfl, by kernel_rfl, by kernel_rfl, by kernel_rfl⟩
-- almshouse/draws.New (1 parameters)
def x116 : XC := (.seq (.tree (.seq ⟨some 1, none, (.box (.tmp 0))⟩
  (.seq ⟨some 2, none, (.ofA (.mv (.cst (.v (.pointer none)))))⟩
  (.seq ⟨some 3, none, (.ofA (.mv (.cst (.v (.int .i64 0)))))⟩
  .done))))
 (.seq (.seq (.tree (.seq ⟨some 9, none, (.ofA (.load (some 4) (.tmp 1)))⟩
  (.seq ⟨some 10, none, (.ofA (.mv (.cst (.v (.int .i64 0)))))⟩
  .done)))
 (.block 0 (.loop (.seq (.tree (.seq ⟨some 11, none, (.ofA (.bin .lss (.tmp 10) (.cst (.v (.int .i64 4)))))⟩
  .done))
 (.seq (.cond (.tmp 11)
 .skip
 (.exit 0))
 (.seq (.block 1 (.seq (.tree (.seq ⟨some 12, none, (.ofA (.idx 4 1 false (.tmp 9) (.tmp 10)))⟩
  (.seq ⟨some 5, none, (.ofA (.mv (.tmp 12)))⟩
  .done)))
 (.seq (.tree (.seq ⟨some 13, none, (.ofA (.mv (.tmp 5)))⟩
  (.seq ⟨some 14, none, (.ofA (.len (.tmp 13)))⟩
  (.seq ⟨some 15, none, (.ofA (.bin .gtr (.tmp 14) (.cst (.v (.int .i64 64)))))⟩
  .done))))
 (.cond (.tmp 15)
 (.seq (.tree (.seq ⟨some 2, none, (.ofA (.mv (.cst (.v (.pointer none)))))⟩
  (.seq ⟨some 3, none, (.ofA (.mv (.cst (.v (.int .i64 4)))))⟩
  .done)))
 .ret)
 .skip))))
 (.tree (.seq ⟨some 16, none, (.ofA (.bin .add (.tmp 10) (.cst (.v (.int .i64 1)))))⟩
  (.seq ⟨some 10, none, (.ofA (.mv (.tmp 16)))⟩
  .done)))))))))
 (.seq (.tree (.seq ⟨some 17, none, (.build [(.v (.slice none 0 0)), (.v (.int .i64 0)), (.v (.int .i64 0)), (.v (.slice none 0 0)), (.v (.int .i64 0)), (.v (.int .i64 0)), (.v (.slice none 0 0)), (.v (.int .i64 0)), (.v (.int .i64 0)), (.v (.slice none 0 0)), (.v (.int .i64 0)), (.v (.int .i64 0))] [])⟩
  (.seq ⟨some 18, none, (.box (.tmp 17))⟩
  (.seq ⟨some 6, none, (.ofA (.mv (.tmp 18)))⟩
  .done))))
 (.seq (.seq (.tree (.seq ⟨some 19, none, (.ofA (.load (some 4) (.tmp 1)))⟩
  (.seq ⟨some 20, none, (.ofA (.mv (.cst (.v (.int .i64 0)))))⟩
  .done)))
 (.block 2 (.loop (.seq (.tree (.seq ⟨some 21, none, (.ofA (.bin .lss (.tmp 20) (.cst (.v (.int .i64 4)))))⟩
  .done))
 (.seq (.cond (.tmp 21)
 .skip
 (.exit 2))
 (.seq (.block 3 (.seq (.tree (.seq ⟨some 22, none, (.ofA (.mv (.tmp 20)))⟩
  (.seq ⟨some 23, none, (.ofA (.idx 4 1 false (.tmp 19) (.tmp 20)))⟩
  (.seq ⟨some 7, none, (.ofA (.mv (.tmp 22)))⟩
  (.seq ⟨some 8, none, (.ofA (.mv (.tmp 23)))⟩
  .done)))))
 (.seq (.seq (.tree (.seq ⟨some 24, none, (.ofA (.mv (.tmp 8)))⟩
  (.seq ⟨some 25, none, (.ofA (.len (.tmp 24)))⟩
  (.seq ⟨some 26, none, (.ofA (.bin .gtr (.tmp 25) (.cst (.v (.int .i64 0)))))⟩
  (.seq ⟨some 27, none, (.ofA (.mv (.tmp 26)))⟩
  (.seq ⟨some 28, some (27, true), (.ofA (.mv (.tmp 8)))⟩
  (.seq ⟨some 29, some (27, true), (.call (.cst (.fn 165 [])) [(.tmp 28)])⟩
  (.seq ⟨some 30, some (27, true), (.ofA (.bin .lss (.tmp 29) (.cst (.v (.int .i64 1)))))⟩
  (.seq ⟨some 31, none, (.ofA (.pick (.tmp 27) (.tmp 30) (.cst (.v (.bool false)))))⟩
  .done)))))))))
 (.cond (.tmp 31)
 (.seq (.tree (.seq ⟨some 2, none, (.ofA (.mv (.cst (.v (.pointer none)))))⟩
  (.seq ⟨some 3, none, (.ofA (.mv (.cst (.v (.int .i64 5)))))⟩
  .done)))
 .ret)
 .skip))
 (.tree (.take ⟨some 32, none, (.ofA (.mv (.tmp 6)))⟩
  (.take ⟨some 33, none, (.ofA (.mv (.tmp 7)))⟩
  (.take ⟨some 34, none, (.ofA (.mv (.tmp 8)))⟩
  (.take ⟨some 36, none, (.ofA (.nilc (.tmp 32)))⟩
  (.take ⟨some 37, none, (.ofA (.faddr 0 (.tmp 36)))⟩
  (.alt [true] [(⟨some 35, none, (.call (.cst (.fn 55 [])) [(.tmp 34)])⟩,
 (.take ⟨some 38, none, (.ofA (.iarr 4 3 (.tmp 37) (.tmp 33)))⟩
  (.take ⟨some 39, none, (.ofA (.faddr 0 (.tmp 38)))⟩
  (.alt [false] [(⟨none, none, (.store 1 (.tmp 39) (.tmp 35))⟩,
 .done)]))))]))))))))))
 (.tree (.seq ⟨some 40, none, (.ofA (.bin .add (.tmp 20) (.cst (.v (.int .i64 1)))))⟩
  (.seq ⟨some 20, none, (.ofA (.mv (.tmp 40)))⟩
  .done)))))))))
 (.seq (.tree (.seq ⟨some 41, none, (.ofA (.mv (.tmp 6)))⟩
  (.seq ⟨some 2, none, (.ofA (.mv (.tmp 41)))⟩
  (.seq ⟨some 3, none, (.ofA (.mv (.cst (.v (.int .i64 0)))))⟩
  .done))))
 .ret)))))
def r116 : List XR := [.tmp 2, .tmp 3]
theorem fn116 : FnX Tryz.prog 116 EFF 42 x116 r116 := ⟨_, Tryz.func116, by kernel_rfl, by kernel_rfl, by kernel_rfl, by kernel_rfl⟩
-- almshouse/nand.New (4 parameters)
def x117 : XC := (.seq (.tree (.seq ⟨some 4, none, (.box (.tmp 0))⟩
  (.seq ⟨some 8, none, (.ofA (.mv (.cst (.v (.pointer none)))))⟩
  (.seq ⟨some 9, none, (.ofA (.mv (.cst (.v (.int .i64 0)))))⟩
  .done))))
 (.seq (.seq (.tree (.seq ⟨some 15, none, (.ofA (.load (some 4) (.tmp 4)))⟩
  (.seq ⟨some 16, none, (.call (.cst (.fn 166 [])) [(.tmp 15)])⟩
  (.seq ⟨some 10, none, (.ofA (.mv (.tmp 16)))⟩
  .done))))
 (.seq (.tree (.seq ⟨some 17, none, (.ofA (.mv (.tmp 10)))⟩
  (.seq ⟨some 18, none, (.ofA (.bin .neq (.tmp 17) (.cst (.v (.int .i64 0)))))⟩
  .done)))
 (.cond (.tmp 18)
 (.seq (.tree (.seq ⟨some 19, none, (.ofA (.mv (.tmp 10)))⟩
  (.seq ⟨some 8, none, (.ofA (.mv (.cst (.v (.pointer none)))))⟩
  (.seq ⟨some 9, none, (.ofA (.mv (.tmp 19)))⟩
  .done))))
 .ret)
 .skip)))
 (.seq (.seq (.tree (.seq ⟨some 20, none, (.ofA (.mv (.tmp 1)))⟩
  (.seq ⟨some 21, none, (.ofA (.eqn false 1 (.tmp 20) (.cst (.v (.pointer none)))))⟩
  (.seq ⟨some 22, none, (.ofA (.mv (.tmp 21)))⟩
  (.seq ⟨some 23, some (22, false), (.ofA (.mv (.tmp 2)))⟩
  (.seq ⟨some 24, some (22, false), (.ofA (.eqn false 1 (.tmp 23) (.cst (.v (.pointer none)))))⟩
  (.seq ⟨some 25, none, (.ofA (.pick (.tmp 22) (.cst (.v (.bool true))) (.tmp 24)))⟩
  .done)))))))
 (.cond (.tmp 25)
 (.seq (.tree (.seq ⟨some 8, none, (.ofA (.mv (.cst (.v (.pointer none)))))⟩
  (.seq ⟨some 9, none, (.ofA (.mv (.cst (.v (.int .i64 1)))))⟩
  .done)))
 .ret)
 .skip))
 (.seq (.tree (.take ⟨some 26, none, (.ofA (.load (some 4) (.tmp 4)))⟩
  (.take ⟨some 27, none, (.ofA (.mv (.tmp 1)))⟩
  (.take ⟨some 28, none, (.ofA (.mv (.tmp 2)))⟩
  (.take ⟨some 29, none, (.ofA (.load (some 4) (.tmp 4)))⟩
  (.act true [(⟨some 30, none, (.call (.cst (.fn 167 [])) [(.tmp 29)])⟩,
 (.act true [(⟨some 31, none, (.mkSl 4 48 [(.v (.slice none 0 0)), (.v (.int .i64 0)), (.v (.bool false)), (.v (.int .i64 0))] (.tmp 30) (.tmp 30))⟩,
 (.act true [(⟨some 32, none, (.build [(.v (.int .i64 0)), (.v (.int .i64 0)), (.v (.int .i64 0)), (.v (.int .i64 0)), (.v (.pointer none)), (.v (.pointer none)), (.v (.slice none 0 0))] [(0, 4, (.tmp 26)), (4, 1, (.tmp 27)), (5, 1, (.tmp 28)), (6, 1, (.tmp 31))])⟩,
 (.act true [(⟨some 33, none, (.box (.tmp 32))⟩,
 (.take ⟨some 11, none, (.ofA (.mv (.tmp 33)))⟩
  .done))]))]))]))]))))))
 (.seq (.seq (.tree (.seq ⟨some 34, none, (.ofA (.mv (.tmp 11)))⟩
  (.seq ⟨some 35, none, (.ofA (.nilc (.tmp 34)))⟩
  (.seq ⟨some 36, none, (.ofA (.faddr 6 (.tmp 35)))⟩
  (.seq ⟨some 37, none, (.ofA (.load none (.tmp 36)))⟩
  (.seq ⟨some 38, none, (.ofA (.len (.tmp 37)))⟩
  (.seq ⟨some 39, none, (.ofA (.mv (.cst (.v (.int .i64 0)))))⟩
  .done)))))))
 (.block 0 (.loop (.seq (.tree (.seq ⟨some 40, none, (.ofA (.bin .lss (.tmp 39) (.tmp 38)))⟩
  .done))
 (.seq (.cond (.tmp 40)
 .skip
 (.exit 0))
 (.seq (.block 1 (.seq (.tree (.seq ⟨some 41, none, (.ofA (.mv (.tmp 39)))⟩
  (.seq ⟨some 12, none, (.ofA (.mv (.tmp 41)))⟩
  .done)))
 (.tree (.take ⟨some 42, none, (.ofA (.mv (.tmp 11)))⟩
  (.take ⟨some 43, none, (.ofA (.nilc (.tmp 42)))⟩
  (.take ⟨some 44, none, (.ofA (.faddr 6 (.tmp 43)))⟩
  (.take ⟨some 45, none, (.ofA (.load none (.tmp 44)))⟩
  (.take ⟨some 46, none, (.ofA (.mv (.tmp 12)))⟩
  (.take ⟨some 47, none, (.ofA (.faddr 3 (.tmp 4)))⟩
  (.take ⟨some 48, none, (.ofA (.load none (.tmp 47)))⟩
  (.alt [true] [(⟨some 49, none, (.mkSl 3 48 [(.v (.int .i64 0)), (.v (.slice none 0 0)), (.v (.string ⟨#[]⟩))] (.tmp 48) (.tmp 48))⟩,
 (.take ⟨some 50, none, (.ofA (.isl 4 (.tmp 45) (.tmp 46)))⟩
  (.take ⟨some 51, none, (.ofA (.faddr 0 (.tmp 50)))⟩
  (.alt [false] [(⟨none, none, (.store 1 (.tmp 51) (.tmp 49))⟩,
 .done)]))))])))))))))))
 (.tree (.seq ⟨some 52, none, (.ofA (.bin .add (.tmp 39) (.cst (.v (.int .i64 1)))))⟩
  (.seq ⟨some 39, none, (.ofA (.mv (.tmp 52)))⟩
  .done)))))))))
 (.seq (.seq (.tree (.seq ⟨some 53, none, (.ofA (.mv (.tmp 3)))⟩
  (.seq ⟨some 54, none, (.ofA (.len (.tmp 53)))⟩
  (.seq ⟨some 55, none, (.ofA (.mv (.cst (.v (.int .i64 0)))))⟩
  .done))))
 (.block 2 (.loop (.seq (.tree (.seq ⟨some 56, none, (.ofA (.bin .lss (.tmp 55) (.tmp 54)))⟩
  .done))
 (.seq (.cond (.tmp 56)
 .skip
 (.exit 2))
 (.seq (.block 3 (.seq (.tree (.seq ⟨some 57, none, (.ofA (.isl 1 (.tmp 53) (.tmp 55)))⟩
  (.seq ⟨some 58, none, (.ofA (.load none (.tmp 57)))⟩
  (.seq ⟨some 14, none, (.ofA (.mv (.tmp 58)))⟩
  .done))))
 (.seq (.seq (.tree (.seq ⟨some 59, none, (.ofA (.mv (.tmp 14)))⟩
  (.seq ⟨some 60, none, (.ofA (.bin .lss (.tmp 59) (.cst (.v (.int .i64 2)))))⟩
  (.seq ⟨some 61, none, (.ofA (.mv (.tmp 60)))⟩
  (.seq ⟨some 62, some (61, false), (.ofA (.mv (.tmp 14)))⟩
  (.seq ⟨some 63, some (61, false), (.ofA (.mv (.tmp 11)))⟩
  (.seq ⟨some 64, some (61, false), (.ofA (.nilc (.tmp 63)))⟩
  (.seq ⟨some 65, some (61, false), (.ofA (.faddr 6 (.tmp 64)))⟩
  (.seq ⟨some 66, some (61, false), (.ofA (.load none (.tmp 65)))⟩
  (.seq ⟨some 67, some (61, false), (.ofA (.len (.tmp 66)))⟩
  (.seq ⟨some 68, some (61, false), (.ofA (.bin .geq (.tmp 62) (.tmp 67)))⟩
  (.seq ⟨some 69, none, (.ofA (.pick (.tmp 61) (.cst (.v (.bool true))) (.tmp 68)))⟩
  .done))))))))))))
 (.cond (.tmp 69)
 (.seq (.tree (.seq ⟨some 8, none, (.ofA (.mv (.cst (.v (.pointer none)))))⟩
  (.seq ⟨some 9, none, (.ofA (.mv (.cst (.v (.int .i64 5)))))⟩
  .done)))
 .ret)
 .skip))
 (.tree (.seq ⟨some 70, none, (.ofA (.mv (.tmp 11)))⟩
  (.seq ⟨some 71, none, (.ofA (.nilc (.tmp 70)))⟩
  (.seq ⟨some 72, none, (.ofA (.faddr 6 (.tmp 71)))⟩
  (.seq ⟨some 73, none, (.ofA (.load none (.tmp 72)))⟩
  (.seq ⟨some 74, none, (.ofA (.mv (.tmp 14)))⟩
  (.seq ⟨some 75, none, (.ofA (.isl 4 (.tmp 73) (.tmp 74)))⟩
  (.seq ⟨some 76, none, (.ofA (.faddr 2 (.tmp 75)))⟩
  (.seq ⟨none, none, (.store 1 (.tmp 76) (.cst (.v (.bool true))))⟩
  .done))))))))))))
 (.tree (.seq ⟨some 77, none, (.ofA (.bin .add (.tmp 55) (.cst (.v (.int .i64 1)))))⟩
  (.seq ⟨some 55, none, (.ofA (.mv (.tmp 77)))⟩
  .done)))))))))
 (.seq (.tree (.seq ⟨some 78, none, (.ofA (.mv (.tmp 11)))⟩
  (.seq ⟨some 8, none, (.ofA (.mv (.tmp 78)))⟩
  (.seq ⟨some 9, none, (.ofA (.mv (.cst (.v (.int .i64 0)))))⟩
  .done))))
 .ret)))))))
def r117 : List XR := [.tmp 8, .tmp 9]
theorem fn117 : FnX Tryz.prog 117 EFF 79 x117 r117 := ⟨_, Tryz.func117, by kernel_rfl, by kernel_rfl, by kernel_rfl, by kernel_rfl⟩
-- (*almshouse/buffer.Buffer).at (2 parameters)
def x118 : XC := (.seq (.tree (.seq ⟨some 4, none, (.ofA (.mv (.cst (.v (.pointer none)))))⟩
  .done))
 (.seq (.tree (.take ⟨some 5, none, (.ofA (.mv (.tmp 0)))⟩
  (.take ⟨some 6, none, (.ofA (.mv (.tmp 0)))⟩
  (.take ⟨some 7, none, (.ofA (.nilc (.tmp 6)))⟩
  (.take ⟨some 8, none, (.ofA (.faddr 12 (.tmp 7)))⟩
  (.take ⟨some 9, none, (.ofA (.load none (.tmp 8)))⟩
  (.take ⟨some 10, none, (.ofA (.mv (.tmp 1)))⟩
  (.take ⟨some 11, none, (.ofA (.bin .add (.tmp 9) (.tmp 10)))⟩
  (.take ⟨some 12, none, (.ofA (.bin .rem (.tmp 11) (.cst (.v (.int .i64 4)))))⟩
  (.take ⟨some 13, none, (.ofA (.nilc (.tmp 5)))⟩
  (.take ⟨some 14, none, (.ofA (.faddr 0 (.tmp 13)))⟩
  (.take ⟨some 15, none, (.ofA (.iarr 4 3 (.tmp 14) (.tmp 12)))⟩
  (.take ⟨some 4, none, (.ofA (.mv (.tmp 15)))⟩
  .done)))))))))))))
 .ret))
def r118 : List XR := [.tmp 4]
theorem fn118 : FnX Tryz.prog 118 EFF 16 x118 r118 := ⟨_, Tryz.func118, by kernel_rfl, by kernel_rfl, by kernel_rfl, by kernel_rfl⟩
-- (*almshouse/nand.Nand).Read (3 parameters)
def x119 : XC := (.seq (.tree (.seq ⟨some 6, none, (.ofA (.mv (.cst (.v (.slice none 0 0)))))⟩
  (.seq ⟨some 7, none, (.ofA (.mv (.cst (.v (.string ⟨#[]⟩)))))⟩
  (.seq ⟨some 8, none, (.ofA (.mv (.cst (.v (.int .i64 0)))))⟩
  .done))))
 (.seq (.tree (.seq ⟨some 11, none, (.ofA (.mv (.tmp 0)))⟩
  (.seq ⟨some 12, none, (.ofA (.mv (.tmp 1)))⟩
  (.seq ⟨some 13, none, (.call (.cst (.fn 168 [])) [(.tmp 11), (.tmp 12)])⟩
  (.seq ⟨some 9, none, (.ofA (.mv (.tmp 13)))⟩
  .done)))))
 (.seq (.block 0 (.seq (.tree (.seq ⟨some 15, none, (.ofA (.mv (.tmp 0)))⟩
  (.seq ⟨some 16, none, (.ofA (.eqn false 1 (.tmp 15) (.cst (.v (.pointer none)))))⟩
  (.seq ⟨some 14, none, (.ofA (.mv (.tmp 16)))⟩
  .done))))
 (.cond (.tmp 14)
 (.seq (.tree (.seq ⟨some 6, none, (.ofA (.mv (.cst (.v (.slice none 0 0)))))⟩
  (.seq ⟨some 7, none, (.ofA (.mv (.cst (.v (.string ⟨#[]⟩)))))⟩
  (.seq ⟨some 8, none, (.ofA (.mv (.cst (.v (.int .i64 1)))))⟩
  .done))))
 .ret)
 (.seq (.tree (.seq ⟨some 18, none, (.ofA (.mv (.tmp 9)))⟩
  (.seq ⟨some 19, none, (.ofA (.eqn false 1 (.tmp 18) (.cst (.v (.pointer none)))))⟩
  (.seq ⟨some 20, none, (.ofA (.mv (.tmp 19)))⟩
  (.seq ⟨some 21, some (20, false), (.ofA (.mv (.tmp 2)))⟩
  (.seq ⟨some 22, some (20, false), (.ofA (.bin .lss (.tmp 21) (.cst (.v (.int .i64 0)))))⟩
  (.seq ⟨some 23, none, (.ofA (.pick (.tmp 20) (.cst (.v (.bool true))) (.tmp 22)))⟩
  (.seq ⟨some 24, none, (.ofA (.mv (.tmp 23)))⟩
  (.seq ⟨some 25, some (24, false), (.ofA (.mv (.tmp 2)))⟩
  (.seq ⟨some 26, some (24, false), (.ofA (.mv (.tmp 9)))⟩
  (.seq ⟨some 27, some (24, false), (.ofA (.nilc (.tmp 26)))⟩
  (.seq ⟨some 28, some (24, false), (.ofA (.faddr 0 (.tmp 27)))⟩
  (.seq ⟨some 29, some (24, false), (.ofA (.load none (.tmp 28)))⟩
  (.seq ⟨some 30, some (24, false), (.ofA (.len (.tmp 29)))⟩
  (.seq ⟨some 31, some (24, false), (.ofA (.bin .geq (.tmp 25) (.tmp 30)))⟩
  (.seq ⟨some 32, none, (.ofA (.pick (.tmp 24) (.cst (.v (.bool true))) (.tmp 31)))⟩
  (.seq ⟨some 17, none, (.ofA (.mv (.tmp 32)))⟩
  .done)))))))))))))))))
 (.cond (.tmp 17)
 (.seq (.tree (.seq ⟨some 6, none, (.ofA (.mv (.cst (.v (.slice none 0 0)))))⟩
  (.seq ⟨some 7, none, (.ofA (.mv (.cst (.v (.string ⟨#[]⟩)))))⟩
  (.seq ⟨some 8, none, (.ofA (.mv (.cst (.v (.int .i64 5)))))⟩
  .done))))
 .ret)
 (.seq (.tree (.seq ⟨some 34, none, (.ofA (.mv (.tmp 0)))⟩
  (.seq ⟨some 35, none, (.ofA (.nilc (.tmp 34)))⟩
  (.seq ⟨some 36, none, (.ofA (.faddr 4 (.tmp 35)))⟩
  (.seq ⟨some 37, none, (.ofA (.load none (.tmp 36)))⟩
  (.seq ⟨some 38, none, (.call (.cst (.fn 99 [])) [(.tmp 37)])⟩
  (.seq ⟨some 33, none, (.ofA (.mv (.tmp 38)))⟩
  .done)))))))
 (.cond (.tmp 33)
 (.seq (.tree (.seq ⟨some 6, none, (.ofA (.mv (.cst (.v (.slice none 0 0)))))⟩
  (.seq ⟨some 7, none, (.ofA (.mv (.cst (.v (.string ⟨#[]⟩)))))⟩
  (.seq ⟨some 8, none, (.ofA (.mv (.cst (.v (.int .i64 12)))))⟩
  .done))))
 .ret)
 .skip)))))))
 (.seq (.seq (.tree (.seq ⟨some 39, none, (.ofA (.mv (.tmp 9)))⟩
  (.seq ⟨some 40, none, (.ofA (.nilc (.tmp 39)))⟩
  (.seq ⟨some 41, none, (.ofA (.faddr 0 (.tmp 40)))⟩
  (.seq ⟨some 42, none, (.ofA (.load none (.tmp 41)))⟩
  (.seq ⟨some 43, none, (.ofA (.mv (.tmp 2)))⟩
  (.seq ⟨some 44, none, (.ofA (.isl 3 (.tmp 42) (.tmp 43)))⟩
  (.seq ⟨some 45, none, (.ofA (.load (some 3) (.tmp 44)))⟩
  (.seq ⟨some 10, none, (.alloc [(.v (.int .i64 0)), (.v (.slice none 0 0)), (.v (.string ⟨#[]⟩))])⟩
  (.seq ⟨none, none, (.store 3 (.tmp 10) (.tmp 45))⟩
  .done))))))))))
 (.seq (.tree (.seq ⟨some 46, none, (.ofA (.faddr 0 (.tmp 10)))⟩
  (.seq ⟨some 47, none, (.ofA (.load none (.tmp 46)))⟩
  .done)))
 (.block 1 (.seq (.tree (.seq ⟨some 49, none, (.ofA (.bin .eql (.tmp 47) (.cst (.v (.int .i64 1)))))⟩
  (.seq ⟨some 48, none, (.ofA (.mv (.tmp 49)))⟩
  .done)))
 (.cond (.tmp 48)
 (.seq (.tree (.take ⟨some 50, none, (.ofA (.faddr 1 (.tmp 10)))⟩
  (.take ⟨some 51, none, (.ofA (.load none (.tmp 50)))⟩
  (.take ⟨some 53, none, (.ofA (.faddr 2 (.tmp 10)))⟩
  (.take ⟨some 54, none, (.ofA (.load none (.tmp 53)))⟩
  (.act true [(⟨some 52, none, (.call (.cst (.fn 169 [])) [(.tmp 51)])⟩,
 (.take ⟨some 6, none, (.ofA (.mv (.tmp 52)))⟩
  (.take ⟨some 7, none, (.ofA (.mv (.tmp 54)))⟩
  (.take ⟨some 8, none, (.ofA (.mv (.cst (.v (.int .i64 0)))))⟩
  .done))))]))))))
 .ret)
 (.seq (.tree (.seq ⟨some 56, none, (.ofA (.bin .eql (.tmp 47) (.cst (.v (.int .i64 2)))))⟩
  (.seq ⟨some 55, none, (.ofA (.mv (.tmp 56)))⟩
  .done)))
 (.cond (.tmp 55)
 (.seq (.tree (.seq ⟨some 6, none, (.ofA (.mv (.cst (.v (.slice none 0 0)))))⟩
  (.seq ⟨some 7, none, (.ofA (.mv (.cst (.v (.string ⟨#[]⟩)))))⟩
  (.seq ⟨some 8, none, (.ofA (.mv (.cst (.v (.int .i64 11)))))⟩
  .done))))
 .ret)
 .skip)))))))
 (.seq (.tree (.seq ⟨some 6, none, (.ofA (.mv (.cst (.v (.slice none 0 0)))))⟩
  (.seq ⟨some 7, none, (.ofA (.mv (.cst (.v (.string ⟨#[]⟩)))))⟩
  (.seq ⟨some 8, none, (.ofA (.mv (.cst (.v (.int .i64 6)))))⟩
  .done))))
 .ret)))))
def r119 : List XR := [.tmp 6, .tmp 7, .tmp 8]
theorem fn119 : FnX Tryz.prog 119 EFF 57 x119 r119 := ⟨_, Tryz.func119, by kernel_rfl, by kernel_rfl, by kernel_rfl, by kernel_rfl⟩
-- (*almshouse/buffer.Buffer).Full (1 parameters)
def x121 : XC := (.seq (.tree (.seq ⟨some 2, none, (.ofA (.mv (.cst (.v (.bool false)))))⟩
  .done))
 (.seq (.tree (.seq ⟨some 3, none, (.ofA (.mv (.tmp 0)))⟩
  (.seq ⟨some 4, none, (.ofA (.eqn false 1 (.tmp 3) (.cst (.v (.pointer none)))))⟩
  (.seq ⟨some 5, none, (.ofA (.mv (.tmp 4)))⟩
  (.seq ⟨some 6, some (5, false), (.ofA (.mv (.tmp 0)))⟩
  (.seq ⟨some 7, some (5, false), (.ofA (.nilc (.tmp 6)))⟩
  (.seq ⟨some 8, some (5, false), (.ofA (.faddr 13 (.tmp 7)))⟩
  (.seq ⟨some 9, some (5, false), (.ofA (.load none (.tmp 8)))⟩
  (.seq ⟨some 10, some (5, false), (.ofA (.bin .eql (.tmp 9) (.cst (.v (.int .i64 4)))))⟩
  (.seq ⟨some 11, none, (.ofA (.pick (.tmp 5) (.cst (.v (.bool true))) (.tmp 10)))⟩
  (.seq ⟨some 2, none, (.ofA (.mv (.tmp 11)))⟩
  .done)))))))))))
 .ret))
def r121 : List XR := [.tmp 2]
theorem fn121 : FnX Tryz.prog 121 EFF 12 x121 r121 := ⟨_, Tryz.func121, by kernel_rfl, by kernel_rfl, by kernel_rfl, by kernel_rfl⟩
-- (*almshouse/buffer.Buffer).Put (2 parameters)
def x122 : XC := (.seq (.tree (.seq ⟨some 3, none, (.box (.tmp 1))⟩
  (.seq ⟨some 4, none, (.ofA (.mv (.cst (.v (.int .i64 0)))))⟩
  .done)))
 (.seq (.seq (.tree (.seq ⟨some 6, none, (.ofA (.mv (.tmp 0)))⟩
  (.seq ⟨some 7, none, (.ofA (.eqn false 1 (.tmp 6) (.cst (.v (.pointer none)))))⟩
  .done)))
 (.cond (.tmp 7)
 (.seq (.tree (.seq ⟨some 4, none, (.ofA (.mv (.cst (.v (.int .i64 1)))))⟩
  .done))
 .ret)
 .skip))
 (.seq (.seq (.tree (.seq ⟨some 8, none, (.ofA (.load (some 3) (.tmp 3)))⟩
  (.seq ⟨some 9, none, (.call (.cst (.fn 176 [])) [(.tmp 8)])⟩
  (.seq ⟨some 5, none, (.ofA (.mv (.tmp 9)))⟩
  .done))))
 (.seq (.tree (.seq ⟨some 10, none, (.ofA (.mv (.tmp 5)))⟩
  (.seq ⟨some 11, none, (.ofA (.bin .neq (.tmp 10) (.cst (.v (.int .i64 0)))))⟩
  .done)))
 (.cond (.tmp 11)
 (.seq (.tree (.seq ⟨some 12, none, (.ofA (.mv (.tmp 5)))⟩
  (.seq ⟨some 4, none, (.ofA (.mv (.tmp 12)))⟩
  .done)))
 .ret)
 .skip)))
 (.seq (.seq (.tree (.seq ⟨some 13, none, (.ofA (.mv (.tmp 0)))⟩
  (.seq ⟨some 14, none, (.call (.cst (.fn 121 [])) [(.tmp 13)])⟩
  .done)))
 (.cond (.tmp 14)
 (.seq (.tree (.seq ⟨some 4, none, (.ofA (.mv (.cst (.v (.int .i64 8)))))⟩
  .done))
 .ret)
 .skip))
 (.seq (.tree (.take ⟨some 15, none, (.ofA (.mv (.tmp 0)))⟩
  (.take ⟨some 16, none, (.ofA (.mv (.tmp 0)))⟩
  (.take ⟨some 17, none, (.ofA (.nilc (.tmp 16)))⟩
  (.take ⟨some 18, none, (.ofA (.faddr 13 (.tmp 17)))⟩
  (.take ⟨some 19, none, (.ofA (.load none (.tmp 18)))⟩
  (.take ⟨some 21, none, (.ofA (.load (some 3) (.tmp 3)))⟩
  (.alt [true] [(⟨some 20, none, (.call (.cst (.fn 118 [])) [(.tmp 15), (.tmp 19)])⟩,
 (.take ⟨some 22, none, (.ofA (.nilc (.tmp 20)))⟩
  (.alt [false] [(⟨none, none, (.store 3 (.tmp 22) (.tmp 21))⟩,
 .done)])))]))))))))
 (.seq (.tree (.seq ⟨some 23, none, (.ofA (.mv (.tmp 0)))⟩
  (.seq ⟨some 24, none, (.ofA (.nilc (.tmp 23)))⟩
  (.seq ⟨some 25, none, (.ofA (.faddr 13 (.tmp 24)))⟩
  (.seq ⟨some 26, none, (.ofA (.load none (.tmp 25)))⟩
  (.seq ⟨some 27, none, (.ofA (.bin .add (.tmp 26) (.cst (.v (.int .i64 1)))))⟩
  (.seq ⟨some 28, none, (.ofA (.nilc (.tmp 23)))⟩
  (.seq ⟨some 29, none, (.ofA (.faddr 13 (.tmp 28)))⟩
  (.seq ⟨none, none, (.store 1 (.tmp 29) (.tmp 27))⟩
  .done)))))))))
 (.seq (.tree (.seq ⟨some 4, none, (.ofA (.mv (.cst (.v (.int .i64 0)))))⟩
  .done))
 .ret)))))))
def r122 : List XR := [.tmp 4]
theorem fn122 : FnX Tryz.prog 122 EFF 30 x122 r122 := ⟨_, Tryz.func122, by kernel_rfl, by kernel_rfl, by kernel_rfl, by kernel_rfl⟩
-- (*almshouse/nand.Nand).Bad (2 parameters)
def x126 : XC := (.seq (.tree (.seq ⟨some 4, none, (.ofA (.mv (.cst (.v (.bool false)))))⟩
  .done))
 (.seq (.tree (.seq ⟨some 6, none, (.ofA (.mv (.tmp 0)))⟩
  (.seq ⟨some 7, none, (.ofA (.mv (.tmp 1)))⟩
  (.seq ⟨some 8, none, (.call (.cst (.fn 168 [])) [(.tmp 6), (.tmp 7)])⟩
  (.seq ⟨some 5, none, (.ofA (.mv (.tmp 8)))⟩
  .done)))))
 (.seq (.tree (.seq ⟨some 9, none, (.ofA (.mv (.tmp 5)))⟩
  (.seq ⟨some 10, none, (.ofA (.eqn true 1 (.tmp 9) (.cst (.v (.pointer none)))))⟩
  (.seq ⟨some 11, none, (.ofA (.mv (.tmp 10)))⟩
  (.seq ⟨some 12, some (11, true), (.ofA (.mv (.tmp 5)))⟩
  (.seq ⟨some 13, some (11, true), (.ofA (.nilc (.tmp 12)))⟩
  (.seq ⟨some 14, some (11, true), (.ofA (.faddr 2 (.tmp 13)))⟩
  (.seq ⟨some 15, some (11, true), (.ofA (.load none (.tmp 14)))⟩
  (.seq ⟨some 16, none, (.ofA (.pick (.tmp 11) (.tmp 15) (.cst (.v (.bool false)))))⟩
  (.seq ⟨some 4, none, (.ofA (.mv (.tmp 16)))⟩
  .done))))))))))
 .ret)))
def r126 : List XR := [.tmp 4]
theorem fn126 : FnX Tryz.prog 126 EFF 17 x126 r126 := ⟨_, Tryz.func126, by kernel_rfl, by kernel_rfl, by kernel_rfl, by kernel_rfl⟩
-- (*almshouse/nand.Nand).Next (2 parameters)
def x127 : XC := (.seq (.tree (.seq ⟨some 4, none, (.ofA (.mv (.cst (.v (.int .i64 0)))))⟩
  .done))
 (.seq (.seq (.tree (.seq ⟨some 6, none, (.ofA (.mv (.tmp 0)))⟩
  (.seq ⟨some 7, none, (.ofA (.mv (.tmp 1)))⟩
  (.seq ⟨some 8, none, (.call (.cst (.fn 168 [])) [(.tmp 6), (.tmp 7)])⟩
  (.seq ⟨some 5, none, (.ofA (.mv (.tmp 8)))⟩
  .done)))))
 (.seq (.tree (.seq ⟨some 9, none, (.ofA (.mv (.tmp 5)))⟩
  (.seq ⟨some 10, none, (.ofA (.eqn true 1 (.tmp 9) (.cst (.v (.pointer none)))))⟩
  .done)))
 (.cond (.tmp 10)
 (.seq (.tree (.seq ⟨some 11, none, (.ofA (.mv (.tmp 5)))⟩
  (.seq ⟨some 12, none, (.ofA (.nilc (.tmp 11)))⟩
  (.seq ⟨some 13, none, (.ofA (.faddr 1 (.tmp 12)))⟩
  (.seq ⟨some 14, none, (.ofA (.load none (.tmp 13)))⟩
  (.seq ⟨some 4, none, (.ofA (.mv (.tmp 14)))⟩
  .done))))))
 .ret)
 .skip)))
 (.seq (.tree (.seq ⟨some 4, none, (.ofA (.mv (.cst (.v (.int .i64 0)))))⟩
  .done))
 .ret)))
def r127 : List XR := [.tmp 4]
theorem fn127 : FnX Tryz.prog 127 EFF 15 x127 r127 := ⟨_, Tryz.func127, by kernel_rfl, by kernel_rfl, by kernel_rfl, by kernel_rfl⟩
-- (*almshouse/nand.Nand).Blocks (1 parameters)
def x130 : XC := (.seq (.tree (.seq ⟨some 2, none, (.ofA (.mv (.cst (.v (.int .i64 0)))))⟩
  .done))
 (.seq (.seq (.tree (.seq ⟨some 3, none, (.ofA (.mv (.tmp 0)))⟩
  (.seq ⟨some 4, none, (.ofA (.eqn false 1 (.tmp 3) (.cst (.v (.pointer none)))))⟩
  .done)))
 (.cond (.tmp 4)
 (.seq (.tree (.seq ⟨some 2, none, (.ofA (.mv (.cst (.v (.int .i64 0)))))⟩
  .done))
 .ret)
 .skip))
 (.seq (.tree (.seq ⟨some 5, none, (.ofA (.mv (.tmp 0)))⟩
  (.seq ⟨some 6, none, (.ofA (.nilc (.tmp 5)))⟩
  (.seq ⟨some 7, none, (.ofA (.faddr 6 (.tmp 6)))⟩
  (.seq ⟨some 8, none, (.ofA (.load none (.tmp 7)))⟩
  (.seq ⟨some 9, none, (.ofA (.len (.tmp 8)))⟩
  (.seq ⟨some 2, none, (.ofA (.mv (.tmp 9)))⟩
  .done)))))))
 .ret)))
def r130 : List XR := [.tmp 2]
theorem fn130 : FnX Tryz.prog 130 EFF 10 x130 r130 := ⟨_, Tryz.func130, by kernel_rfl, by kernel_rfl, by kernel_rfl, by kernel_rfl⟩
-- slices.Contains[[]int,int] (2 parameters)
def x132 : XC := (.seq (.tree (.seq ⟨some 4, none, (.ofA (.mv (.cst (.v (.bool false)))))⟩
  .done))
 (.seq (.tree (.seq ⟨some 5, none, (.ofA (.mv (.tmp 0)))⟩
  (.seq ⟨some 6, none, (.ofA (.mv (.tmp 1)))⟩
  (.seq ⟨some 7, none, (.call (.cst (.fn 184 [])) [(.tmp 5), (.tmp 6)])⟩
  (.seq ⟨some 8, none, (.ofA (.bin .geq (.tmp 7) (.cst (.v (.int .i64 0)))))⟩
  (.seq ⟨some 4, none, (.ofA (.mv (.tmp 8)))⟩
  .done))))))
 .ret))
def r132 : List XR := [.tmp 4]
theorem fn132 : FnX Tryz.prog 132 EFF 9 x132 r132 := ⟨_, Tryz.func132, by kernel_rfl, by kernel_rfl, by kernel_rfl, by kernel_rfl⟩
-- slices.Sort[[]int,int] (1 parameters)
def x133 : XC := (.seq (.tree (.seq ⟨some 3, none, (.ofA (.mv (.tmp 0)))⟩
  (.seq ⟨some 4, none, (.ofA (.len (.tmp 3)))⟩
  (.seq ⟨some 2, none, (.ofA (.mv (.tmp 4)))⟩
  .done))))
 (.tree (.seq ⟨some 5, none, (.ofA (.mv (.tmp 0)))⟩
  (.seq ⟨some 6, none, (.ofA (.mv (.tmp 2)))⟩
  (.seq ⟨some 7, none, (.ofA (.mv (.tmp 2)))⟩
  (.seq ⟨some 8, none, (.ofA (.conv .u64 (.tmp 7)))⟩
  (.seq ⟨some 9, none, (.call (.cst (.fn 186 [])) [(.tmp 8)])⟩
  (.seq ⟨some 10, none, (.call (.cst (.fn 185 [])) [(.tmp 5), (.cst (.v (.int .i64 0))), (.tmp 6), (.tmp 9)])⟩
  .done))))))))
def r133 : List XR := []
theorem fn133 : FnX Tryz.prog 133 EFF 11 x133 r133 := ⟨_, Tryz.func133, by kernel_rfl, by kernel_rfl, by kernel_rfl, by kernel_rfl⟩
-- (*almshouse/nand.Nand).Blank (2 parameters)
def x136 : XC := (.seq (.tree (.seq ⟨some 4, none, (.ofA (.mv (.cst (.v (.bool false)))))⟩
  .done))
 (.seq (.tree (.seq ⟨some 6, none, (.ofA (.mv (.tmp 0)))⟩
  (.seq ⟨some 7, none, (.ofA (.mv (.tmp 1)))⟩
  (.seq ⟨some 8, none, (.call (.cst (.fn 168 [])) [(.tmp 6), (.tmp 7)])⟩
  (.seq ⟨some 5, none, (.ofA (.mv (.tmp 8)))⟩
  .done)))))
 (.seq (.tree (.seq ⟨some 9, none, (.ofA (.mv (.tmp 5)))⟩
  (.seq ⟨some 10, none, (.ofA (.eqn true 1 (.tmp 9) (.cst (.v (.pointer none)))))⟩
  (.seq ⟨some 11, none, (.ofA (.mv (.tmp 10)))⟩
  (.seq ⟨some 12, some (11, true), (.ofA (.mv (.tmp 5)))⟩
  (.seq ⟨some 13, some (11, true), (.ofA (.nilc (.tmp 12)))⟩
  (.seq ⟨some 14, some (11, true), (.ofA (.faddr 1 (.tmp 13)))⟩
  (.seq ⟨some 15, some (11, true), (.ofA (.load none (.tmp 14)))⟩
  (.seq ⟨some 16, some (11, true), (.ofA (.bin .eql (.tmp 15) (.cst (.v (.int .i64 0)))))⟩
  (.seq ⟨some 17, none, (.ofA (.pick (.tmp 11) (.tmp 16) (.cst (.v (.bool false)))))⟩
  (.seq ⟨some 4, none, (.ofA (.mv (.tmp 17)))⟩
  .done)))))))))))
 .ret)))
def r136 : List XR := [.tmp 4]
theorem fn136 : FnX Tryz.prog 136 EFF 18 x136 r136 := ⟨_, Tryz.func136, by kernel_rfl, by kernel_rfl, by kernel_rfl, by kernel_rfl⟩
-- (*sync/atomic.Bool).Store (2 parameters)
def x137 : XC := (.tree (.take ⟨some 4, none, (.ofA (.mv (.tmp 0)))⟩
  (.take ⟨some 5, none, (.ofA (.nilc (.tmp 4)))⟩
  (.take ⟨some 6, none, (.ofA (.faddr 0 (.tmp 5)))⟩
  (.take ⟨some 7, none, (.ofA (.mv (.tmp 1)))⟩
  (.alt [true] [(⟨some 8, none, (.call (.cst (.fn 194 [])) [(.tmp 7)])⟩,
 (.alt [false] [(⟨some 9, none, (.call (.cst (.fn 193 [])) [(.tmp 6), (.tmp 8)])⟩,
 .done)]))]))))))
def r137 : List XR := []
theorem fn137 : FnX Tryz.prog 137 EFF 10 x137 r137 := ⟨_, Tryz.func137, by kernel_rfl, by kernel_rfl, by kernel_rfl, by kernel_rfl⟩
-- (*sync/atomic.Int64).Store (2 parameters)
def x138 : XC := (.tree (.seq ⟨some 4, none, (.ofA (.mv (.tmp 0)))⟩
  (.seq ⟨some 5, none, (.ofA (.nilc (.tmp 4)))⟩
  (.seq ⟨some 6, none, (.ofA (.faddr 0 (.tmp 5)))⟩
  (.seq ⟨some 7, none, (.ofA (.mv (.tmp 1)))⟩
  (.seq ⟨some 8, none, (.call (.cst (.fn 195 [])) [(.tmp 6), (.tmp 7)])⟩
  .done))))))
def r138 : List XR := []
theorem fn138 : FnX Tryz.prog 138 EFF 9 x138 r138 := ⟨_, Tryz.func138, by kernel_rfl, by kernel_rfl, by kernel_rfl, by kernel_rfl⟩
-- (*almshouse/draws.Draws).of (2 parameters)
def x139 : XC := (.seq (.tree (.seq ⟨some 4, none, (.ofA (.mv (.cst (.v (.pointer none)))))⟩
  .done))
 (.seq (.seq (.tree (.seq ⟨some 5, none, (.ofA (.mv (.tmp 0)))⟩
  (.seq ⟨some 6, none, (.ofA (.eqn false 1 (.tmp 5) (.cst (.v (.pointer none)))))⟩
  (.seq ⟨some 7, none, (.ofA (.mv (.tmp 6)))⟩
  (.seq ⟨some 8, some (7, false), (.ofA (.mv (.tmp 1)))⟩
  (.seq ⟨some 9, some (7, false), (.ofA (.bin .lss (.tmp 8) (.cst (.v (.int .i64 0)))))⟩
  (.seq ⟨some 10, none, (.ofA (.pick (.tmp 7) (.cst (.v (.bool true))) (.tmp 9)))⟩
  (.seq ⟨some 11, none, (.ofA (.mv (.tmp 10)))⟩
  (.seq ⟨some 12, some (11, false), (.ofA (.mv (.tmp 1)))⟩
  (.seq ⟨some 13, some (11, false), (.ofA (.bin .geq (.tmp 12) (.cst (.v (.int .i64 4)))))⟩
  (.seq ⟨some 14, none, (.ofA (.pick (.tmp 11) (.cst (.v (.bool true))) (.tmp 13)))⟩
  .done)))))))))))
 (.cond (.tmp 14)
 (.seq (.tree (.seq ⟨some 4, none, (.ofA (.mv (.cst (.v (.pointer none)))))⟩
  .done))
 .ret)
 .skip))
 (.seq (.tree (.seq ⟨some 15, none, (.ofA (.mv (.tmp 0)))⟩
  (.seq ⟨some 16, none, (.ofA (.mv (.tmp 1)))⟩
  (.seq ⟨some 17, none, (.ofA (.nilc (.tmp 15)))⟩
  (.seq ⟨some 18, none, (.ofA (.faddr 0 (.tmp 17)))⟩
  (.seq ⟨some 19, none, (.ofA (.iarr 4 3 (.tmp 18) (.tmp 16)))⟩
  (.seq ⟨some 4, none, (.ofA (.mv (.tmp 19)))⟩
  .done)))))))
 .ret)))
def r139 : List XR := [.tmp 4]
theorem fn139 : FnX Tryz.prog 139 EFF 20 x139 r139 := ⟨_, Tryz.func139, by kernel_rfl, by kernel_rfl, by kernel_rfl, by kernel_rfl⟩
-- (*sync/atomic.Int64).Load (1 parameters)
def x140 : XC := (.seq (.tree (.seq ⟨some 2, none, (.ofA (.mv (.cst (.v (.int .i64 0)))))⟩
  .done))
 (.seq (.tree (.seq ⟨some 3, none, (.ofA (.mv (.tmp 0)))⟩
  (.seq ⟨some 4, none, (.ofA (.nilc (.tmp 3)))⟩
  (.seq ⟨some 5, none, (.ofA (.faddr 0 (.tmp 4)))⟩
  (.seq ⟨some 6, none, (.call (.cst (.fn 196 [])) [(.tmp 5)])⟩
  (.seq ⟨some 2, none, (.ofA (.mv (.tmp 6)))⟩
  .done))))))
 .ret))
def r140 : List XR := [.tmp 2]
theorem fn140 : FnX Tryz.prog 140 EFF 7 x140 r140 := ⟨_, Tryz.func140, by kernel_rfl, by kernel_rfl, by kernel_rfl, by kernel_rfl⟩
-- almshouse/ledger.there (2 parameters)
def x141 : XC := (.seq (.tree (.seq ⟨some 2, none, (.box (.tmp 0))⟩
  (.seq ⟨some 4, none, (.ofA (.mv (.cst (.v (.int .i64 0)))))⟩
  .done)))
 (.seq (.block 0 (.seq (.tree (.seq ⟨some 6, none, (.ofA (.mv (.tmp 1)))⟩
  (.seq ⟨some 7, none, (.call (.cst (.fn 151 [])) [(.tmp 6), (.cst (.v (.int .i64 0))), (.cst (.v (.int .i64 3)))])⟩
  (.seq ⟨some 8, none, (.ofA (.un .not (.tmp 7)))⟩
  (.seq ⟨some 5, none, (.ofA (.mv (.tmp 8)))⟩
  .done)))))
 (.cond (.tmp 5)
 (.seq (.tree (.seq ⟨some 4, none, (.ofA (.mv (.cst (.v (.int .i64 5)))))⟩
  .done))
 .ret)
 (.seq (.tree (.seq ⟨some 10, none, (.ofA (.mv (.tmp 1)))⟩
  (.seq ⟨some 11, none, (.ofA (.faddr 2 (.tmp 2)))⟩
  (.seq ⟨some 12, none, (.ofA (.iarr 4 5 (.tmp 11) (.tmp 10)))⟩
  (.seq ⟨some 13, none, (.ofA (.faddr 0 (.tmp 12)))⟩
  (.seq ⟨some 14, none, (.ofA (.load none (.tmp 13)))⟩
  (.seq ⟨some 15, none, (.ofA (.un .not (.tmp 14)))⟩
  (.seq ⟨some 9, none, (.ofA (.mv (.tmp 15)))⟩
  .done))))))))
 (.cond (.tmp 9)
 (.seq (.tree (.seq ⟨some 4, none, (.ofA (.mv (.cst (.v (.int .i64 6)))))⟩
  .done))
 .ret)
 .skip)))))
 (.seq (.tree (.seq ⟨some 4, none, (.ofA (.mv (.cst (.v (.int .i64 0)))))⟩
  .done))
 .ret)))
def r141 : List XR := [.tmp 4]
theorem fn141 : FnX Tryz.prog 141 EFF 16 x141 r141 := ⟨_, Tryz.func141, by kernel_rfl, by kernel_rfl, by kernel_rfl, by kernel_rfl⟩
-- almshouse/rule.Check (2 parameters)
def x142 : XC := (.seq (.tree (.seq ⟨some 4, none, (.ofA (.mv (.cst (.v (.int .i64 0)))))⟩
  .done))
 (.seq (.seq (.tree (.seq ⟨some 5, none, (.ofA (.mv (.tmp 0)))⟩
  (.seq ⟨some 6, none, (.ofA (.bin .lss (.tmp 5) (.cst (.v (.int .i64 1)))))⟩
  (.seq ⟨some 7, none, (.ofA (.mv (.tmp 6)))⟩
  (.seq ⟨some 8, some (7, false), (.ofA (.mv (.tmp 0)))⟩
  (.seq ⟨some 9, some (7, false), (.ofA (.bin .gtr (.tmp 8) (.cst (.v (.int .i64 64)))))⟩
  (.seq ⟨some 10, none, (.ofA (.pick (.tmp 7) (.cst (.v (.bool true))) (.tmp 9)))⟩
  (.seq ⟨some 11, none, (.ofA (.mv (.tmp 10)))⟩
  (.seq ⟨some 12, some (11, false), (.ofA (.mv (.tmp 1)))⟩
  (.seq ⟨some 13, some (11, false), (.ofA (.bin .lss (.tmp 12) (.cst (.v (.int .i64 0)))))⟩
  (.seq ⟨some 14, none, (.ofA (.pick (.tmp 11) (.cst (.v (.bool true))) (.tmp 13)))⟩
  (.seq ⟨some 15, none, (.ofA (.mv (.tmp 14)))⟩
  (.seq ⟨some 16, some (15, false), (.ofA (.mv (.tmp 1)))⟩
  (.seq ⟨some 17, some (15, false), (.ofA (.bin .gtr (.tmp 16) (.cst (.v (.int .i64 8)))))⟩
  (.seq ⟨some 18, none, (.ofA (.pick (.tmp 15) (.cst (.v (.bool true))) (.tmp 17)))⟩
  .done)))))))))))))))
 (.cond (.tmp 18)
 (.seq (.tree (.seq ⟨some 4, none, (.ofA (.mv (.cst (.v (.int .i64 5)))))⟩
  .done))
 .ret)
 .skip))
 (.seq (.tree (.seq ⟨some 4, none, (.ofA (.mv (.cst (.v (.int .i64 0)))))⟩
  .done))
 .ret)))
def r142 : List XR := [.tmp 4]
theorem fn142 : FnX Tryz.prog 142 EFF 19 x142 r142 := ⟨_, Tryz.func142, by kernel_rfl, by kernel_rfl, by kernel_rfl, by kernel_rfl⟩
-- almshouse/ledger.change (2 parameters)
def x143 : XC := (.seq (.tree (.seq ⟨some 2, none, (.box (.tmp 0))⟩
  (.seq ⟨some 4, none, (.alloc [(.v (.int .i64 0)), (.v (.int .i64 0)), (.v (.bool false)), (.v (.int .i64 0)), (.v (.int .i64 0)), (.v (.int .i64 0)), (.v (.slice none 0 0)), (.v (.bool false)), (.v (.int .i64 0)), (.v (.int .i64 0)), (.v (.int .i64 0)), (.v (.slice none 0 0)), (.v (.bool false)), (.v (.int .i64 0)), (.v (.int .i64 0)), (.v (.int .i64 0)), (.v (.slice none 0 0)), (.v (.bool false)), (.v (.int .i64 0)), (.v (.int .i64 0)), (.v (.int .i64 0)), (.v (.slice none 0 0))])⟩
  (.seq ⟨some 5, none, (.ofA (.mv (.cst (.v (.int .i64 0)))))⟩
  .done))))
 (.seq (.seq (.tree (.seq ⟨some 7, none, (.ofA (.faddr 0 (.tmp 2)))⟩
  (.seq ⟨some 8, none, (.ofA (.load none (.tmp 7)))⟩
  (.seq ⟨some 9, none, (.ofA (.bin .eql (.tmp 8) (.cst (.v (.int .i64 2147483647)))))⟩
  .done))))
 (.cond (.tmp 9)
 (.seq (.tree (.seq ⟨some 10, none, (.build [(.v (.int .i64 0)), (.v (.int .i64 0)), (.v (.bool false)), (.v (.int .i64 0)), (.v (.int .i64 0)), (.v (.int .i64 0)), (.v (.slice none 0 0)), (.v (.bool false)), (.v (.int .i64 0)), (.v (.int .i64 0)), (.v (.int .i64 0)), (.v (.slice none 0 0)), (.v (.bool false)), (.v (.int .i64 0)), (.v (.int .i64 0)), (.v (.int .i64 0)), (.v (.slice none 0 0)), (.v (.bool false)), (.v (.int .i64 0)), (.v (.int .i64 0)), (.v (.int .i64 0)), (.v (.slice none 0 0))] [])⟩
  (.seq ⟨none, none, (.store 22 (.tmp 4) (.tmp 10))⟩
  (.seq ⟨some 5, none, (.ofA (.mv (.cst (.v (.int .i64 4)))))⟩
  .done))))
 .ret)
 .skip))
 (.seq (.tree (.seq ⟨some 11, none, (.ofA (.load (some 22) (.tmp 2)))⟩
  (.seq ⟨some 12, none, (.call (.cst (.fn 105 [])) [(.tmp 11)])⟩
  (.seq ⟨some 6, none, (.alloc [(.v (.int .i64 0)), (.v (.int .i64 0)), (.v (.bool false)), (.v (.int .i64 0)), (.v (.int .i64 0)), (.v (.int .i64 0)), (.v (.slice none 0 0)), (.v (.bool false)), (.v (.int .i64 0)), (.v (.int .i64 0)), (.v (.int .i64 0)), (.v (.slice none 0 0)), (.v (.bool false)), (.v (.int .i64 0)), (.v (.int .i64 0)), (.v (.int .i64 0)), (.v (.slice none 0 0)), (.v (.bool false)), (.v (.int .i64 0)), (.v (.int .i64 0)), (.v (.int .i64 0)), (.v (.slice none 0 0))])⟩
  (.seq ⟨none, none, (.store 22 (.tmp 6) (.tmp 12))⟩
  .done)))))
 (.seq (.tree (.seq ⟨some 13, none, (.ofA (.faddr 0 (.tmp 6)))⟩
  (.seq ⟨some 14, none, (.ofA (.load none (.tmp 13)))⟩
  (.seq ⟨some 15, none, (.ofA (.bin .add (.tmp 14) (.cst (.v (.int .i64 1)))))⟩
  (.seq ⟨some 16, none, (.ofA (.faddr 0 (.tmp 6)))⟩
  (.seq ⟨none, none, (.store 1 (.tmp 16) (.tmp 15))⟩
  .done))))))
 (.seq (.tree (.seq ⟨some 17, none, (.ofA (.mv (.tmp 1)))⟩
  (.seq ⟨some 18, none, (.call (.tmp 17) [(.tmp 6)])⟩
  .done)))
 (.seq (.tree (.seq ⟨some 19, none, (.ofA (.load (some 22) (.tmp 6)))⟩
  (.seq ⟨none, none, (.store 22 (.tmp 4) (.tmp 19))⟩
  (.seq ⟨some 5, none, (.ofA (.mv (.cst (.v (.int .i64 0)))))⟩
  .done))))
 .ret))))))
def r143 : List XR := [.cell 4 (some 22), .tmp 5]
theorem fn143 : FnX Tryz.prog 143 EFF 20 x143 r143 := ⟨_, Tryz.func143, by kernel_rfl, by kernel_rfl, by kernel_rfl, by kernel_rfl⟩
-- almshouse/ledger.Create$1 (1 parameters)
def x144 : XC := (.seq (.tree (.seq ⟨some 6, none, (.ofA (.mv (.tmp 0)))⟩
  (.seq ⟨some 7, none, (.ofA (.nilc (.tmp 6)))⟩
  (.seq ⟨some 8, none, (.ofA (.faddr 1 (.tmp 7)))⟩
  (.seq ⟨some 9, none, (.ofA (.load none (.tmp 8)))⟩
  (.seq ⟨some 10, none, (.ofA (.bin .add (.tmp 9) (.cst (.v (.int .i64 1)))))⟩
  (.seq ⟨some 11, none, (.ofA (.nilc (.tmp 6)))⟩
  (.seq ⟨some 12, none, (.ofA (.faddr 1 (.tmp 11)))⟩
  (.seq ⟨none, none, (.store 1 (.tmp 12) (.tmp 10))⟩
  .done)))))))))
 (.tree (.take ⟨some 13, none, (.ofA (.mv (.tmp 0)))⟩
  (.take ⟨some 14, none, (.ofA (.load none (.tmp 4)))⟩
  (.take ⟨some 15, none, (.ofA (.mv (.tmp 0)))⟩
  (.take ⟨some 16, none, (.ofA (.nilc (.tmp 15)))⟩
  (.take ⟨some 17, none, (.ofA (.faddr 1 (.tmp 16)))⟩
  (.take ⟨some 18, none, (.ofA (.load none (.tmp 17)))⟩
  (.take ⟨some 19, none, (.ofA (.load none (.tmp 1)))⟩
  (.take ⟨some 20, none, (.ofA (.load none (.tmp 2)))⟩
  (.take ⟨some 21, none, (.ofA (.load none (.tmp 3)))⟩
  (.take ⟨some 24, none, (.ofA (.nilc (.tmp 13)))⟩
  (.take ⟨some 25, none, (.ofA (.faddr 2 (.tmp 24)))⟩
  (.alt [true] [(⟨some 22, none, (.call (.cst (.fn 55 [])) [(.tmp 21)])⟩,
 (.alt [true] [(⟨some 23, none, (.build [(.v (.bool false)), (.v (.int .i64 0)), (.v (.int .i64 0)), (.v (.int .i64 0)), (.v (.slice none 0 0))] [(0, 1, (.cst (.v (.bool true)))), (1, 1, (.tmp 18)), (2, 1, (.tmp 19)), (3, 1, (.tmp 20)), (4, 1, (.tmp 22))])⟩,
 (.take ⟨some 26, none, (.ofA (.iarr 4 5 (.tmp 25) (.tmp 14)))⟩
  (.alt [false] [(⟨none, none, (.store 5 (.tmp 26) (.tmp 23))⟩,
 .done)])))]))]))))))))))))))
def r144 : List XR := []
theorem fn144 : FnX Tryz.prog 144 EFF 27 x144 r144 := ⟨_, Tryz.func144, by kernel_rfl, by kernel_rfl, by kernel_rfl, by kernel_rfl⟩
-- almshouse/ledger.Free (3 parameters)
def x145 : XC := (.seq (.tree (.seq ⟨some 3, none, (.box (.tmp 0))⟩
  (.seq ⟨some 6, none, (.ofA (.mv (.cst (.v (.slice none 0 0)))))⟩
  .done)))
 (.seq (.tree (.seq ⟨some 7, none, (.ofA (.mv (.cst (.v (.slice none 0 0)))))⟩
  .done))
 (.seq (.seq (.tree (.seq ⟨some 8, none, (.ofA (.mv (.cst (.v (.int .i64 2)))))⟩
  .done))
 (.block 0 (.loop (.seq (.seq (.tree (.seq ⟨some 9, none, (.ofA (.mv (.tmp 8)))⟩
  (.seq ⟨some 10, none, (.ofA (.mv (.tmp 1)))⟩
  (.seq ⟨some 11, none, (.ofA (.bin .lss (.tmp 9) (.tmp 10)))⟩
  .done))))
 (.cond (.tmp 11)
 .skip
 (.exit 0)))
 (.seq (.block 1 (.seq (.tree (.seq ⟨some 14, none, (.ofA (.load (some 22) (.tmp 3)))⟩
  (.seq ⟨some 15, none, (.ofA (.mv (.tmp 8)))⟩
  (.seq ⟨some 16, none, (.call (.cst (.fn 197 [])) [(.tmp 14), (.tmp 15)])⟩
  (.seq ⟨some 17, none, (.ofA (.bin .lss (.tmp 16) (.cst (.v (.int .i64 0)))))⟩
  (.seq ⟨some 18, none, (.ofA (.mv (.tmp 17)))⟩
  (.seq ⟨some 19, some (18, true), (.ofA (.mv (.tmp 2)))⟩
  (.seq ⟨some 20, some (18, true), (.ofA (.eqn false 3 (.tmp 19) (.cst (.v .nilFunc))))⟩
  (.seq ⟨some 21, some (18, true), (.ofA (.mv (.tmp 20)))⟩
  (.seq ⟨some 22, some (21, false), (.ofA (.mv (.tmp 2)))⟩
  (.seq ⟨some 23, some (21, false), (.ofA (.mv (.tmp 8)))⟩
  (.seq ⟨some 24, some (21, false), (.call (.tmp 22) [(.tmp 23)])⟩
  (.seq ⟨some 25, some (21, false), (.ofA (.un .not (.tmp 24)))⟩
  (.seq ⟨some 26, some (18, true), (.ofA (.pick (.tmp 21) (.cst (.v (.bool true))) (.tmp 25)))⟩
  (.seq ⟨some 27, none, (.ofA (.pick (.tmp 18) (.tmp 26) (.cst (.v (.bool false)))))⟩
  .done)))))))))))))))
 (.cond (.tmp 27)
 (.tree (.seq ⟨some 28, none, (.ofA (.mv (.tmp 7)))⟩
  (.seq ⟨some 29, none, (.ofA (.mv (.tmp 8)))⟩
  (.seq ⟨some 30, none, (.buildSl 1 1 [(.v (.int .i64 0))] [(0, 1, (.tmp 29))])⟩
  (.seq ⟨some 31, none, (.app 1 8 (.tmp 28) (.tmp 30))⟩
  (.seq ⟨some 7, none, (.ofA (.mv (.tmp 31)))⟩
  .done))))))
 .skip)))
 (.tree (.seq ⟨some 12, none, (.ofA (.mv (.tmp 8)))⟩
  (.seq ⟨some 13, none, (.ofA (.bin .add (.tmp 12) (.cst (.v (.int .i64 1)))))⟩
  (.seq ⟨some 8, none, (.ofA (.mv (.tmp 13)))⟩
  .done)))))))))
 (.seq (.tree (.seq ⟨some 32, none, (.ofA (.mv (.tmp 7)))⟩
  (.seq ⟨some 6, none, (.ofA (.mv (.tmp 32)))⟩
  .done)))
 .ret))))
def r145 : List XR := [.tmp 6]
theorem fn145 : FnX Tryz.prog 145 EFF 33 x145 r145 := ⟨_, Tryz.func145, by kernel_rfl, by kernel_rfl, by kernel_rfl, by kernel_rfl⟩
-- almshouse/rule.paged (1 parameters)
def x146 : XC := (.seq (.tree (.seq ⟨some 2, none, (.ofA (.mv (.cst (.v (.bool false)))))⟩
  .done))
 (.seq (.tree (.seq ⟨some 3, none, (.ofA (.mv (.tmp 0)))⟩
  (.seq ⟨some 4, none, (.ofA (.bin .geq (.tmp 3) (.cst (.v (.int .i64 2)))))⟩
  (.seq ⟨some 5, none, (.ofA (.mv (.tmp 4)))⟩
  (.seq ⟨some 6, some (5, true), (.ofA (.mv (.tmp 0)))⟩
  (.seq ⟨some 7, some (5, true), (.ofA (.bin .leq (.tmp 6) (.cst (.v (.int .i64 16)))))⟩
  (.seq ⟨some 8, none, (.ofA (.pick (.tmp 5) (.tmp 7) (.cst (.v (.bool false)))))⟩
  (.seq ⟨some 2, none, (.ofA (.mv (.tmp 8)))⟩
  .done))))))))
 .ret))
def r146 : List XR := [.tmp 2]
theorem fn146 : FnX Tryz.prog 146 EFF 9 x146 r146 := ⟨_, Tryz.func146, by kernel_rfl, by kernel_rfl, by kernel_rfl, by kernel_rfl⟩
-- almshouse/rule.Data (2 parameters)
def x147 : XC := (.seq (.tree (.seq ⟨some 4, none, (.ofA (.mv (.cst (.v (.int .i64 0)))))⟩
  .done))
 (.seq (.seq (.tree (.seq ⟨some 5, none, (.ofA (.mv (.tmp 0)))⟩
  (.seq ⟨some 6, none, (.call (.cst (.fn 142 [])) [(.tmp 5), (.cst (.v (.int .i64 0)))])⟩
  (.seq ⟨some 7, none, (.ofA (.bin .neq (.tmp 6) (.cst (.v (.int .i64 0)))))⟩
  (.seq ⟨some 8, none, (.ofA (.mv (.tmp 7)))⟩
  (.seq ⟨some 9, some (8, false), (.ofA (.mv (.tmp 1)))⟩
  (.seq ⟨some 10, some (8, false), (.call (.cst (.fn 146 [])) [(.tmp 9)])⟩
  (.seq ⟨some 11, some (8, false), (.ofA (.un .not (.tmp 10)))⟩
  (.seq ⟨some 12, none, (.ofA (.pick (.tmp 8) (.cst (.v (.bool true))) (.tmp 11)))⟩
  .done)))))))))
 (.cond (.tmp 12)
 (.seq (.tree (.seq ⟨some 4, none, (.ofA (.mv (.cst (.v (.int .i64 0)))))⟩
  .done))
 .ret)
 .skip))
 (.seq (.tree (.seq ⟨some 13, none, (.ofA (.mv (.tmp 0)))⟩
  (.seq ⟨some 14, none, (.ofA (.mv (.tmp 1)))⟩
  (.seq ⟨some 15, none, (.ofA (.bin .quo (.tmp 13) (.tmp 14)))⟩
  (.seq ⟨some 16, none, (.ofA (.bin .add (.tmp 15) (.cst (.v (.int .i64 2)))))⟩
  (.seq ⟨some 4, none, (.ofA (.mv (.tmp 16)))⟩
  .done))))))
 .ret)))
def r147 : List XR := [.tmp 4]
theorem fn147 : FnX Tryz.prog 147 EFF 17 x147 r147 := ⟨_, Tryz.func147, by kernel_rfl, by kernel_rfl, by kernel_rfl, by kernel_rfl⟩
-- almshouse/adlog.Save (2 parameters)
def x148 : XC := (.seq (.tree (.seq ⟨some 3, none, (.box (.tmp 1))⟩
  (.seq ⟨some 4, none, (.ofA (.mv (.cst (.v (.int .i64 0)))))⟩
  .done)))
 (.seq (.seq (.tree (.seq ⟨some 10, none, (.ofA (.mv (.tmp 0)))⟩
  (.seq ⟨some 11, none, (.ofA (.eqn false 1 (.tmp 10) (.cst (.v (.pointer none)))))⟩
  .done)))
 (.cond (.tmp 11)
 (.seq (.tree (.seq ⟨some 4, none, (.ofA (.mv (.cst (.v (.int .i64 1)))))⟩
  .done))
 .ret)
 .skip))
 (.seq (.tree (.seq ⟨some 13, none, (.ofA (.mv (.tmp 0)))⟩
  (.seq ⟨some 14, none, (.call (.cst (.fn 154 [])) [(.tmp 13)])⟩
  (.seq ⟨some 12, none, (.ofA (.mv (.tmp 14)))⟩
  (.seq ⟨some 15, none, (.ofA (.extract 0 (.tmp 12)))⟩
  (.seq ⟨some 16, none, (.ofA (.extract 1 (.tmp 12)))⟩
  (.seq ⟨some 5, none, (.alloc [(.v (.int .i64 0)), (.v (.int .i64 0)), (.v (.bool false)), (.v (.int .i64 0)), (.v (.int .i64 0)), (.v (.int .i64 0)), (.v (.slice none 0 0)), (.v (.bool false)), (.v (.int .i64 0)), (.v (.int .i64 0)), (.v (.int .i64 0)), (.v (.slice none 0 0)), (.v (.bool false)), (.v (.int .i64 0)), (.v (.int .i64 0)), (.v (.int .i64 0)), (.v (.slice none 0 0)), (.v (.bool false)), (.v (.int .i64 0)), (.v (.int .i64 0)), (.v (.int .i64 0)), (.v (.slice none 0 0)), (.v (.int .i64 0)), (.v (.bool false))])⟩
  (.seq ⟨none, none, (.store 24 (.tmp 5) (.tmp 15))⟩
  (.seq ⟨some 6, none, (.ofA (.mv (.tmp 16)))⟩
  .done)))))))))
 (.seq (.seq (.tree (.seq ⟨some 17, none, (.ofA (.mv (.tmp 6)))⟩
  (.seq ⟨some 18, none, (.ofA (.bin .neq (.tmp 17) (.cst (.v (.int .i64 0)))))⟩
  .done)))
 (.cond (.tmp 18)
 (.seq (.tree (.seq ⟨some 19, none, (.ofA (.mv (.tmp 6)))⟩
  (.seq ⟨some 4, none, (.ofA (.mv (.tmp 19)))⟩
  .done)))
 .ret)
 .skip))
 (.seq (.tree (.take ⟨some 21, none, (.ofA (.load (some 22) (.tmp 3)))⟩
  (.take ⟨some 22, none, (.ofA (.mv (.tmp 0)))⟩
  (.take ⟨some 24, none, (.ofA (.mv (.tmp 0)))⟩
  (.act true [(⟨some 23, none, (.call (.cst (.fn 130 [])) [(.tmp 22)])⟩,
 (.act true [(⟨some 25, none, (.call (.cst (.fn 54 [])) [(.tmp 24)])⟩,
 (.take ⟨some 26, none, (.ofA (.field 3 none (.tmp 25)))⟩
  (.act true [(⟨some 27, none, (.call (.cst (.fn 198 [])) [(.tmp 21), (.tmp 23), (.tmp 26)])⟩,
 (.take ⟨some 20, none, (.ofA (.mv (.tmp 27)))⟩
  (.take ⟨some 28, none, (.ofA (.extract 0 (.tmp 20)))⟩
  (.take ⟨some 29, none, (.ofA (.extract 1 (.tmp 20)))⟩
  (.take ⟨some 7, none, (.ofA (.mv (.tmp 28)))⟩
  (.take ⟨some 6, none, (.ofA (.mv (.tmp 29)))⟩
  .done))))))])))]))])))))
 (.seq (.block 0 (.seq (.tree (.seq ⟨some 31, none, (.ofA (.mv (.tmp 6)))⟩
  (.seq ⟨some 32, none, (.ofA (.bin .neq (.tmp 31) (.cst (.v (.int .i64 0)))))⟩
  (.seq ⟨some 30, none, (.ofA (.mv (.tmp 32)))⟩
  .done))))
 (.cond (.tmp 30)
 (.seq (.tree (.seq ⟨some 33, none, (.ofA (.mv (.tmp 6)))⟩
  (.seq ⟨some 4, none, (.ofA (.mv (.tmp 33)))⟩
  .done)))
 .ret)
 (.seq (.tree (.seq ⟨some 35, none, (.ofA (.faddr 0 (.tmp 3)))⟩
  (.seq ⟨some 36, none, (.ofA (.load none (.tmp 35)))⟩
  (.seq ⟨some 37, none, (.ofA (.faddr 0 (.tmp 5)))⟩
  (.seq ⟨some 38, none, (.ofA (.faddr 0 (.tmp 37)))⟩
  (.seq ⟨some 39, none, (.ofA (.load none (.tmp 38)))⟩
  (.seq ⟨some 40, none, (.ofA (.bin .leq (.tmp 36) (.tmp 39)))⟩
  (.seq ⟨some 34, none, (.ofA (.mv (.tmp 40)))⟩
  .done))))))))
 (.cond (.tmp 34)
 (.seq (.tree (.seq ⟨some 4, none, (.ofA (.mv (.cst (.v (.int .i64 2)))))⟩
  .done))
 .ret)
 .skip)))))
 (.seq (.tree (.seq ⟨some 42, none, (.ofA (.mv (.tmp 0)))⟩
  (.seq ⟨some 43, none, (.ofA (.faddr 22 (.tmp 5)))⟩
  (.seq ⟨some 44, none, (.ofA (.load none (.tmp 43)))⟩
  (.seq ⟨some 45, none, (.call (.cst (.fn 199 [])) [(.tmp 42), (.tmp 44)])⟩
  (.seq ⟨some 41, none, (.ofA (.mv (.tmp 45)))⟩
  (.seq ⟨some 46, none, (.ofA (.extract 0 (.tmp 41)))⟩
  (.seq ⟨some 47, none, (.ofA (.extract 1 (.tmp 41)))⟩
  (.seq ⟨some 48, none, (.ofA (.extract 2 (.tmp 41)))⟩
  (.seq ⟨some 8, none, (.ofA (.mv (.tmp 46)))⟩
  (.seq ⟨some 9, none, (.ofA (.mv (.tmp 47)))⟩
  (.seq ⟨some 6, none, (.ofA (.mv (.tmp 48)))⟩
  .done))))))))))))
 (.seq (.seq (.tree (.seq ⟨some 49, none, (.ofA (.mv (.tmp 6)))⟩
  (.seq ⟨some 50, none, (.ofA (.bin .neq (.tmp 49) (.cst (.v (.int .i64 0)))))⟩
  .done)))
 (.cond (.tmp 50)
 (.seq (.tree (.seq ⟨some 51, none, (.ofA (.mv (.tmp 6)))⟩
  (.seq ⟨some 4, none, (.ofA (.mv (.tmp 51)))⟩
  .done)))
 .ret)
 .skip))
 (.seq (.tree (.seq ⟨some 52, none, (.ofA (.mv (.tmp 0)))⟩
  (.seq ⟨some 53, none, (.ofA (.mv (.tmp 8)))⟩
  (.seq ⟨some 54, none, (.ofA (.mv (.tmp 9)))⟩
  (.seq ⟨some 55, none, (.ofA (.mv (.tmp 7)))⟩
  (.seq ⟨some 56, none, (.ofA (.b2s (.tmp 55)))⟩
  (.seq ⟨some 57, none, (.call (.cst (.fn 179 [])) [(.tmp 52), (.cst (.v (.int .i64 4))), (.tmp 53), (.tmp 54), (.cst (.v (.slice none 0 0))), (.tmp 56)])⟩
  (.seq ⟨some 4, none, (.ofA (.mv (.tmp 57)))⟩
  .done))))))))
 .ret)))))))))
def r148 : List XR := [.tmp 4]
theorem fn148 : FnX Tryz.prog 148 EFF 58 x148 r148 := ⟨_, Tryz.func148, by kernel_rfl, by kernel_rfl, by kernel_rfl, by kernel_rfl⟩
end Go.Proofs.YtdbjkklhgfhgnaaGreat
