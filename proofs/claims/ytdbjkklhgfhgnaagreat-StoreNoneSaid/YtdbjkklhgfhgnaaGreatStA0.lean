/- Layer 18 (store): the law's own store, reckoned by the kernel. -/
import Derived.Test.YtdbjkklhgfhgnaaGreatOnE
import Derived.Test.YtdbjkklhgfhgnaaGreatSzP
namespace Go.Proofs.YtdbjkklhgfhgnaaGreat
open Go.RowKit Sz
set_option linter.unusedVariables false
set_option linter.unusedSimpArgs false
set_option maxHeartbeats 4000000
set_option maxRecDepth 20000
abbrev EFF : List FuncId := [9, 10, 12, 13, 14, 15, 16, 17, 51, 52, 57, 59, 68, 122, 124, 125, 133, 137, 138, 172, 173, 174, 177, 179, 185, 187, 193, 195, 211, 216, 217, 218, 219, 220, 221, 222, 224, 225, 228, 229, 249, 251, 252, 253, 254, 267, 268]
-- almshouse/almshouselaw18.StoreNone (2 parameters)
def x3 : XC := (.seq (.tree (.seq ⟨some 4, none, (.ofA (.mv (.cst (.v (.bool false)))))⟩
  .done))
 (.seq (.seq (.tree (.seq ⟨some 12, none, (.call (.cst (.fn 6 [])) [])⟩
  (.seq ⟨some 13, none, (.ofA (.un .not (.tmp 12)))⟩
  .done)))
 (.cond (.tmp 13)
 (.seq (.tree (.seq ⟨some 4, none, (.ofA (.mv (.cst (.v (.bool false)))))⟩
  .done))
 .ret)
 .skip))
 (.seq (.tree (.seq ⟨some 5, none, (.ofA (.mv (.cst (.v (.pointer none)))))⟩
  .done))
 (.seq (.tree (.seq ⟨some 15, none, (.ofA (.mv (.tmp 5)))⟩
  (.seq ⟨some 16, none, (.ofA (.mv (.tmp 0)))⟩
  (.seq ⟨some 17, none, (.call (.cst (.fn 7 [])) [(.tmp 15), (.tmp 16)])⟩
  (.seq ⟨some 14, none, (.ofA (.mv (.tmp 17)))⟩
  (.seq ⟨some 18, none, (.ofA (.extract 0 (.tmp 14)))⟩
  (.seq ⟨some 19, none, (.ofA (.extract 1 (.tmp 14)))⟩
  (.seq ⟨some 6, none, (.ofA (.mv (.tmp 18)))⟩
  (.seq ⟨some 7, none, (.ofA (.mv (.tmp 19)))⟩
  .done)))))))))
 (.seq (.tree (.seq ⟨some 21, none, (.ofA (.mv (.tmp 5)))⟩
  (.seq ⟨some 22, none, (.call (.cst (.fn 8 [])) [(.tmp 21)])⟩
  (.seq ⟨some 20, none, (.ofA (.mv (.tmp 22)))⟩
  (.seq ⟨some 23, none, (.ofA (.extract 0 (.tmp 20)))⟩
  (.seq ⟨some 24, none, (.ofA (.extract 1 (.tmp 20)))⟩
  (.seq ⟨some 8, none, (.ofA (.mv (.tmp 23)))⟩
  (.seq ⟨some 9, none, (.ofA (.mv (.tmp 24)))⟩
  .done))))))))
 (.seq (.tree (.seq ⟨some 25, none, (.ofA (.mv (.tmp 5)))⟩
  (.seq ⟨some 26, none, (.ofA (.mv (.tmp 0)))⟩
  (.seq ⟨some 27, none, (.call (.cst (.fn 9 [])) [(.tmp 25), (.tmp 26), (.cst (.v (.slice none 0 0)))])⟩
  .done))))
 (.seq (.tree (.seq ⟨some 28, none, (.ofA (.mv (.tmp 5)))⟩
  (.seq ⟨some 29, none, (.ofA (.mv (.tmp 0)))⟩
  (.seq ⟨some 30, none, (.call (.cst (.fn 10 [])) [(.tmp 28), (.tmp 29), (.cst (.v (.int .i64 3)))])⟩
  .done))))
 (.seq (.tree (.seq ⟨some 32, none, (.buildSl 1 1 [(.v (.int .i64 0))] [(0, 1, (.cst (.v (.int .i64 2))))])⟩
  (.seq ⟨some 33, none, (.build [(.v (.bool false)), (.v (.int .i64 0)), (.v (.int .i64 0)), (.v (.int .i64 0)), (.v (.slice none 0 0))] [(0, 1, (.cst (.v (.bool true)))), (4, 1, (.tmp 32))])⟩
  (.seq ⟨some 34, none, (.call (.cst (.fn 11 [])) [(.cst (.v (.pointer none))), (.cst (.v (.int .i64 1))), (.tmp 33)])⟩
  (.seq ⟨some 31, none, (.ofA (.mv (.tmp 34)))⟩
  (.seq ⟨some 35, none, (.ofA (.extract 0 (.tmp 31)))⟩
  (.seq ⟨some 36, none, (.ofA (.extract 1 (.tmp 31)))⟩
  (.seq ⟨some 10, none, (.ofA (.mv (.tmp 35)))⟩
  (.seq ⟨some 11, none, (.ofA (.mv (.tmp 36)))⟩
  .done)))))))))
 (.seq (.tree (.seq ⟨some 37, none, (.ofA (.mv (.tmp 7)))⟩
  (.seq ⟨some 38, none, (.ofA (.bin .eql (.tmp 37) (.cst (.v (.int .i64 1)))))⟩
  (.seq ⟨some 39, none, (.ofA (.mv (.tmp 38)))⟩
  (.seq ⟨some 40, some (39, true), (.ofA (.mv (.tmp 5)))⟩
  (.seq ⟨some 41, some (39, true), (.ofA (.mv (.tmp 0)))⟩
  (.seq ⟨some 42, some (39, true), (.ofA (.mv (.tmp 1)))⟩
  (.seq ⟨some 43, some (39, true), (.call (.cst (.fn 12 [])) [(.tmp 40), (.tmp 41), (.tmp 42)])⟩
  (.seq ⟨some 44, some (39, true), (.ofA (.bin .eql (.tmp 43) (.cst (.v (.int .i64 1)))))⟩
  (.seq ⟨some 45, none, (.ofA (.pick (.tmp 39) (.tmp 44) (.cst (.v (.bool false)))))⟩
  (.seq ⟨some 46, none, (.ofA (.mv (.tmp 45)))⟩
  (.seq ⟨some 47, some (46, true), (.ofA (.mv (.tmp 5)))⟩
  (.seq ⟨some 48, some (46, true), (.ofA (.mv (.tmp 0)))⟩
  (.seq ⟨some 49, some (46, true), (.call (.cst (.fn 13 [])) [(.tmp 47), (.tmp 48)])⟩
  (.seq ⟨some 50, some (46, true), (.ofA (.bin .eql (.tmp 49) (.cst (.v (.int .i64 1)))))⟩
  (.seq ⟨some 51, none, (.ofA (.pick (.tmp 46) (.tmp 50) (.cst (.v (.bool false)))))⟩
  (.seq ⟨some 52, none, (.ofA (.mv (.tmp 51)))⟩
  (.seq ⟨some 53, some (52, true), (.ofA (.mv (.tmp 5)))⟩
  (.seq ⟨some 54, some (52, true), (.call (.cst (.fn 14 [])) [(.tmp 53)])⟩
  (.seq ⟨some 55, some (52, true), (.ofA (.bin .eql (.tmp 54) (.cst (.v (.int .i64 1)))))⟩
  (.seq ⟨some 56, none, (.ofA (.pick (.tmp 52) (.tmp 55) (.cst (.v (.bool false)))))⟩
  (.seq ⟨some 57, none, (.ofA (.mv (.tmp 56)))⟩
  (.seq ⟨some 58, some (57, true), (.ofA (.mv (.tmp 5)))⟩
  (.seq ⟨some 59, some (57, true), (.ofA (.mv (.tmp 0)))⟩
  (.seq ⟨some 60, some (57, true), (.call (.cst (.fn 15 [])) [(.tmp 58), (.tmp 59)])⟩
  (.seq ⟨some 61, some (57, true), (.ofA (.bin .eql (.tmp 60) (.cst (.v (.int .i64 1)))))⟩
  (.seq ⟨some 62, none, (.ofA (.pick (.tmp 57) (.tmp 61) (.cst (.v (.bool false)))))⟩
  (.seq ⟨some 63, none, (.ofA (.mv (.tmp 62)))⟩
  (.seq ⟨some 64, some (63, true), (.ofA (.mv (.tmp 5)))⟩
  (.seq ⟨some 65, some (63, true), (.ofA (.mv (.tmp 0)))⟩
  (.seq ⟨some 66, some (63, true), (.call (.cst (.fn 16 [])) [(.tmp 64), (.tmp 65)])⟩
  (.seq ⟨some 67, some (63, true), (.ofA (.bin .eql (.tmp 66) (.cst (.v (.int .i64 1)))))⟩
  (.seq ⟨some 68, none, (.ofA (.pick (.tmp 63) (.tmp 67) (.cst (.v (.bool false)))))⟩
  (.seq ⟨some 69, none, (.ofA (.mv (.tmp 68)))⟩
  (.seq ⟨some 70, some (69, true), (.ofA (.mv (.tmp 5)))⟩
  (.seq ⟨some 71, some (69, true), (.build [(.v (.slice none 0 0)), (.v (.slice none 0 0)), (.v (.int .i64 0))] [])⟩
  (.seq ⟨some 72, some (69, true), (.call (.cst (.fn 17 [])) [(.tmp 70), (.tmp 71)])⟩
  (.seq ⟨some 73, some (69, true), (.ofA (.bin .eql (.tmp 72) (.cst (.v (.int .i64 1)))))⟩
  (.seq ⟨some 74, none, (.ofA (.pick (.tmp 69) (.tmp 73) (.cst (.v (.bool false)))))⟩
  (.seq ⟨some 75, none, (.ofA (.mv (.tmp 74)))⟩
  (.seq ⟨some 76, some (75, true), (.ofA (.mv (.tmp 5)))⟩
  (.seq ⟨some 77, some (75, true), (.call (.cst (.fn 18 [])) [(.tmp 76)])⟩
  (.seq ⟨some 78, none, (.ofA (.pick (.tmp 75) (.tmp 77) (.cst (.v (.bool false)))))⟩
  (.seq ⟨some 79, none, (.ofA (.mv (.tmp 78)))⟩
  (.seq ⟨some 80, some (79, true), (.ofA (.mv (.tmp 9)))⟩
  (.seq ⟨some 81, some (79, true), (.ofA (.un .not (.tmp 80)))⟩
  (.seq ⟨some 82, none, (.ofA (.pick (.tmp 79) (.tmp 81) (.cst (.v (.bool false)))))⟩
  (.seq ⟨some 83, none, (.ofA (.mv (.tmp 82)))⟩
  (.seq ⟨some 84, some (83, true), (.ofA (.mv (.tmp 5)))⟩
  (.seq ⟨some 85, some (83, true), (.call (.cst (.fn 19 [])) [(.tmp 84)])⟩
  (.seq ⟨some 86, some (83, true), (.ofA (.len (.tmp 85)))⟩
  (.seq ⟨some 87, some (83, true), (.ofA (.mv (.tmp 5)))⟩
  (.seq ⟨some 88, some (83, true), (.call (.cst (.fn 20 [])) [(.tmp 87)])⟩
  (.seq ⟨some 89, some (83, true), (.ofA (.bin .add (.tmp 86) (.tmp 88)))⟩
  (.seq ⟨some 90, some (83, true), (.ofA (.mv (.tmp 5)))⟩
  (.seq ⟨some 91, some (83, true), (.call (.cst (.fn 21 [])) [(.tmp 90)])⟩
  (.seq ⟨some 92, some (83, true), (.ofA (.bin .add (.tmp 89) (.tmp 91)))⟩
  (.seq ⟨some 93, some (83, true), (.ofA (.mv (.tmp 5)))⟩
  (.seq ⟨some 94, some (83, true), (.call (.cst (.fn 22 [])) [(.tmp 93)])⟩
  (.seq ⟨some 95, some (83, true), (.ofA (.bin .add (.tmp 92) (.tmp 94)))⟩
  (.seq ⟨some 96, some (83, true), (.ofA (.mv (.tmp 5)))⟩
  (.seq ⟨some 97, some (83, true), (.call (.cst (.fn 23 [])) [(.tmp 96)])⟩
  (.seq ⟨some 98, some (83, true), (.ofA (.len (.tmp 97)))⟩
  (.seq ⟨some 99, some (83, true), (.ofA (.bin .add (.tmp 95) (.tmp 98)))⟩
  (.seq ⟨some 100, some (83, true), (.ofA (.bin .eql (.tmp 99) (.cst (.v (.int .i64 0)))))⟩
  (.seq ⟨some 101, none, (.ofA (.pick (.tmp 83) (.tmp 100) (.cst (.v (.bool false)))))⟩
  (.seq ⟨some 102, none, (.ofA (.mv (.tmp 101)))⟩
  (.seq ⟨some 103, some (102, true), (.ofA (.mv (.tmp 11)))⟩
  (.seq ⟨some 104, some (102, true), (.ofA (.bin .eql (.tmp 103) (.cst (.v (.int .i64 1)))))⟩
  (.seq ⟨some 105, none, (.ofA (.pick (.tmp 102) (.tmp 104) (.cst (.v (.bool false)))))⟩
  (.seq ⟨some 4, none, (.ofA (.mv (.tmp 105)))⟩
  .done)))))))))))))))))))))))))))))))))))))))))))))))))))))))))))))))))))))))
 .ret)))))))))
def r3 : List XR := [.tmp 4]
theorem fn3 : FnX Tryz.prog 3 EFF 106 x3 r3 := ⟨_, Tryz.func3, by kernel_rfl, by kernel_rfl, by kernel_rfl, by kernel_rfl⟩
-- almshouse/almshouselaw18.fixed (0 parameters)
def x6 : XC := (.seq (.tree (.seq ⟨some 0, none, (.ofA (.mv (.cst (.v (.bool false)))))⟩
  .done))
 (.seq (.tree (.seq ⟨some 16, none, (.build [(.v (.int .i64 0)), (.v (.int .i64 0)), (.v (.int .i64 0)), (.v (.int .i64 0)), (.v (.slice none 0 0))] [(0, 1, (.cst (.v (.int .i64 3)))), (1, 1, (.cst (.v (.int .i64 1)))), (2, 1, (.cst (.v (.int .i64 2))))])⟩
  (.seq ⟨some 17, none, (.call (.cst (.fn 46 [])) [(.tmp 16), (.cst (.v (.int .i64 (-1))))])⟩
  (.seq ⟨some 15, none, (.ofA (.mv (.tmp 17)))⟩
  (.seq ⟨some 18, none, (.ofA (.extract 0 (.tmp 15)))⟩
  (.seq ⟨some 19, none, (.ofA (.extract 1 (.tmp 15)))⟩
  (.seq ⟨some 20, none, (.ofA (.extract 2 (.tmp 15)))⟩
  (.seq ⟨some 21, none, (.ofA (.extract 3 (.tmp 15)))⟩
  (.seq ⟨some 22, none, (.ofA (.extract 4 (.tmp 15)))⟩
  (.seq ⟨some 5, none, (.alloc [(.v (.bool false)), (.v (.int .i64 0)), (.v (.int .i64 0)), (.v (.int .i64 0)), (.v (.slice none 0 0))])⟩
  (.seq ⟨some 1, none, (.ofA (.mv (.tmp 18)))⟩
  (.seq ⟨some 2, none, (.ofA (.mv (.tmp 19)))⟩
  (.seq ⟨some 3, none, (.ofA (.mv (.tmp 20)))⟩
  (.seq ⟨some 4, none, (.ofA (.mv (.tmp 21)))⟩
  (.seq ⟨none, none, (.store 5 (.tmp 5) (.tmp 22))⟩
  .done)))))))))))))))
 (.seq (.seq (.tree (.seq ⟨some 23, none, (.ofA (.mv (.tmp 1)))⟩
  (.seq ⟨some 24, none, (.ofA (.eqn false 1 (.tmp 23) (.cst (.v (.pointer none)))))⟩
  .done)))
 (.cond (.tmp 24)
 (.seq (.tree (.seq ⟨some 0, none, (.ofA (.mv (.cst (.v (.bool false)))))⟩
  .done))
 .ret)
 .skip))
 (.seq (.tree (.seq ⟨some 25, none, (.ofA (.mv (.tmp 1)))⟩
  (.seq ⟨some 26, none, (.call (.cst (.fn 12 [])) [(.tmp 25), (.cst (.v (.int .i64 2))), (.cst (.v (.string ⟨#[104, 105]⟩)))])⟩
  (.seq ⟨some 6, none, (.ofA (.mv (.tmp 26)))⟩
  .done))))
 (.seq (.tree (.seq ⟨some 27, none, (.ofA (.mv (.tmp 1)))⟩
  (.seq ⟨some 28, none, (.call (.cst (.fn 14 [])) [(.tmp 27)])⟩
  (.seq ⟨some 7, none, (.ofA (.mv (.tmp 28)))⟩
  .done))))
 (.seq (.tree (.seq ⟨some 30, none, (.ofA (.mv (.tmp 1)))⟩
  (.seq ⟨some 31, none, (.call (.cst (.fn 7 [])) [(.tmp 30), (.cst (.v (.int .i64 2)))])⟩
  (.seq ⟨some 29, none, (.ofA (.mv (.tmp 31)))⟩
  (.seq ⟨some 32, none, (.ofA (.extract 0 (.tmp 29)))⟩
  (.seq ⟨some 33, none, (.ofA (.extract 1 (.tmp 29)))⟩
  (.seq ⟨some 8, none, (.ofA (.mv (.tmp 32)))⟩
  (.seq ⟨some 9, none, (.ofA (.mv (.tmp 33)))⟩
  .done))))))))
 (.seq (.tree (.seq ⟨some 34, none, (.ofA (.mv (.tmp 1)))⟩
  (.seq ⟨some 35, none, (.call (.cst (.fn 13 [])) [(.tmp 34), (.cst (.v (.int .i64 2)))])⟩
  (.seq ⟨some 10, none, (.ofA (.mv (.tmp 35)))⟩
  .done))))
 (.seq (.tree (.seq ⟨some 37, none, (.ofA (.mv (.tmp 1)))⟩
  (.seq ⟨some 38, none, (.call (.cst (.fn 7 [])) [(.tmp 37), (.cst (.v (.int .i64 2)))])⟩
  (.seq ⟨some 36, none, (.ofA (.mv (.tmp 38)))⟩
  (.seq ⟨some 39, none, (.ofA (.extract 0 (.tmp 36)))⟩
  (.seq ⟨some 40, none, (.ofA (.extract 1 (.tmp 36)))⟩
  (.seq ⟨some 11, none, (.ofA (.mv (.tmp 39)))⟩
  (.seq ⟨some 12, none, (.ofA (.mv (.tmp 40)))⟩
  .done))))))))
 (.seq (.tree (.seq ⟨some 42, none, (.ofA (.mv (.tmp 1)))⟩
  (.seq ⟨some 43, none, (.call (.cst (.fn 7 [])) [(.tmp 42), (.cst (.v (.int .i64 4)))])⟩
  (.seq ⟨some 41, none, (.ofA (.mv (.tmp 43)))⟩
  (.seq ⟨some 44, none, (.ofA (.extract 0 (.tmp 41)))⟩
  (.seq ⟨some 45, none, (.ofA (.extract 1 (.tmp 41)))⟩
  (.seq ⟨some 13, none, (.ofA (.mv (.tmp 44)))⟩
  (.seq ⟨some 14, none, (.ofA (.mv (.tmp 45)))⟩
  .done))))))))
 (.seq (.tree (.seq ⟨some 46, none, (.ofA (.mv (.tmp 6)))⟩
  (.seq ⟨some 47, none, (.ofA (.bin .eql (.tmp 46) (.cst (.v (.int .i64 0)))))⟩
  (.seq ⟨some 48, none, (.ofA (.mv (.tmp 47)))⟩
  (.seq ⟨some 49, some (48, true), (.ofA (.mv (.tmp 7)))⟩
  (.seq ⟨some 50, some (48, true), (.ofA (.bin .eql (.tmp 49) (.cst (.v (.int .i64 0)))))⟩
  (.seq ⟨some 51, none, (.ofA (.pick (.tmp 48) (.tmp 50) (.cst (.v (.bool false)))))⟩
  (.seq ⟨some 52, none, (.ofA (.mv (.tmp 51)))⟩
  (.seq ⟨some 53, some (52, true), (.ofA (.mv (.tmp 8)))⟩
  (.seq ⟨some 54, some (52, true), (.ofA (.bin .eql (.tmp 53) (.cst (.v (.string ⟨#[104, 105]⟩)))))⟩
  (.seq ⟨some 55, none, (.ofA (.pick (.tmp 52) (.tmp 54) (.cst (.v (.bool false)))))⟩
  (.seq ⟨some 56, none, (.ofA (.mv (.tmp 55)))⟩
  (.seq ⟨some 57, some (56, true), (.ofA (.mv (.tmp 9)))⟩
  (.seq ⟨some 58, some (56, true), (.ofA (.bin .eql (.tmp 57) (.cst (.v (.int .i64 0)))))⟩
  (.seq ⟨some 59, none, (.ofA (.pick (.tmp 56) (.tmp 58) (.cst (.v (.bool false)))))⟩
  (.seq ⟨some 60, none, (.ofA (.mv (.tmp 59)))⟩
  (.seq ⟨some 61, some (60, true), (.ofA (.mv (.tmp 10)))⟩
  (.seq ⟨some 62, some (60, true), (.ofA (.bin .eql (.tmp 61) (.cst (.v (.int .i64 0)))))⟩
  (.seq ⟨some 63, none, (.ofA (.pick (.tmp 60) (.tmp 62) (.cst (.v (.bool false)))))⟩
  (.seq ⟨some 64, none, (.ofA (.mv (.tmp 63)))⟩
  (.seq ⟨some 65, some (64, true), (.ofA (.mv (.tmp 11)))⟩
  (.seq ⟨some 66, some (64, true), (.ofA (.bin .eql (.tmp 65) (.cst (.v (.string ⟨#[]⟩)))))⟩
  (.seq ⟨some 67, none, (.ofA (.pick (.tmp 64) (.tmp 66) (.cst (.v (.bool false)))))⟩
  (.seq ⟨some 68, none, (.ofA (.mv (.tmp 67)))⟩
  (.seq ⟨some 69, some (68, true), (.ofA (.mv (.tmp 12)))⟩
  (.seq ⟨some 70, some (68, true), (.ofA (.bin .eql (.tmp 69) (.cst (.v (.int .i64 0)))))⟩
  (.seq ⟨some 71, none, (.ofA (.pick (.tmp 68) (.tmp 70) (.cst (.v (.bool false)))))⟩
  (.seq ⟨some 72, none, (.ofA (.mv (.tmp 71)))⟩
  (.seq ⟨some 73, some (72, true), (.ofA (.mv (.tmp 14)))⟩
  (.seq ⟨some 74, some (72, true), (.ofA (.bin .eql (.tmp 73) (.cst (.v (.int .i64 5)))))⟩
  (.seq ⟨some 75, none, (.ofA (.pick (.tmp 72) (.tmp 74) (.cst (.v (.bool false)))))⟩
  (.seq ⟨some 76, none, (.ofA (.mv (.tmp 75)))⟩
  (.seq ⟨some 77, some (76, true), (.ofA (.mv (.tmp 1)))⟩
  (.seq ⟨some 78, some (76, true), (.call (.cst (.fn 22 [])) [(.tmp 77)])⟩
  (.seq ⟨some 79, some (76, true), (.ofA (.bin .eql (.tmp 78) (.cst (.v (.int .i64 4)))))⟩
  (.seq ⟨some 80, none, (.ofA (.pick (.tmp 76) (.tmp 79) (.cst (.v (.bool false)))))⟩
  (.seq ⟨some 81, none, (.ofA (.mv (.tmp 80)))⟩
  (.seq ⟨some 82, some (81, true), (.ofA (.mv (.tmp 1)))⟩
  (.seq ⟨some 83, some (81, true), (.call (.cst (.fn 18 [])) [(.tmp 82)])⟩
  (.seq ⟨some 84, some (81, true), (.ofA (.un .not (.tmp 83)))⟩
  (.seq ⟨some 85, none, (.ofA (.pick (.tmp 81) (.tmp 84) (.cst (.v (.bool false)))))⟩
  (.seq ⟨some 86, none, (.ofA (.mv (.tmp 85)))⟩
  (.seq ⟨some 87, some (86, true), (.ofA (.mv (.tmp 1)))⟩
  (.seq ⟨some 88, some (86, true), (.call (.cst (.fn 21 [])) [(.tmp 87)])⟩
  (.seq ⟨some 89, some (86, true), (.ofA (.bin .eql (.tmp 88) (.cst (.v (.int .i64 1)))))⟩
  (.seq ⟨some 90, none, (.ofA (.pick (.tmp 86) (.tmp 89) (.cst (.v (.bool false)))))⟩
  (.seq ⟨some 0, none, (.ofA (.mv (.tmp 90)))⟩
  .done)))))))))))))))))))))))))))))))))))))))))))))))
 .ret))))))))))
def r6 : List XR := [.tmp 0]
theorem fn6 : FnX Tryz.prog 6 EFF 91 x6 r6 := ⟨_, Tryz.func6, by kernel_rfl, by kernel_rfl, by kernel_rfl, by kernel_rfl⟩
-- (*almshouse/store.Store).Read (2 parameters)
def x7 : XC := (.seq (.tree (.seq ⟨some 4, none, (.ofA (.mv (.cst (.v (.string ⟨#[]⟩)))))⟩
  (.seq ⟨some 5, none, (.ofA (.mv (.cst (.v (.int .i64 0)))))⟩
  .done)))
 (.seq (.seq (.tree (.seq ⟨some 14, none, (.ofA (.mv (.tmp 0)))⟩
  (.seq ⟨some 15, none, (.ofA (.mv (.tmp 1)))⟩
  (.seq ⟨some 16, none, (.call (.cst (.fn 47 [])) [(.tmp 14), (.tmp 15)])⟩
  (.seq ⟨some 6, none, (.ofA (.mv (.tmp 16)))⟩
  .done)))))
 (.seq (.tree (.seq ⟨some 17, none, (.ofA (.mv (.tmp 6)))⟩
  (.seq ⟨some 18, none, (.ofA (.bin .neq (.tmp 17) (.cst (.v (.int .i64 0)))))⟩
  .done)))
 (.cond (.tmp 18)
 (.seq (.tree (.seq ⟨some 19, none, (.ofA (.mv (.tmp 6)))⟩
  (.seq ⟨some 4, none, (.ofA (.mv (.cst (.v (.string ⟨#[]⟩)))))⟩
  (.seq ⟨some 5, none, (.ofA (.mv (.tmp 19)))⟩
  .done))))
 .ret)
 .skip)))
 (.seq (.seq (.tree (.seq ⟨some 21, none, (.ofA (.mv (.tmp 0)))⟩
  (.seq ⟨some 22, none, (.ofA (.nilc (.tmp 21)))⟩
  (.seq ⟨some 23, none, (.ofA (.faddr 8 (.tmp 22)))⟩
  (.seq ⟨some 24, none, (.ofA (.load none (.tmp 23)))⟩
  (.seq ⟨some 25, none, (.ofA (.mv (.tmp 1)))⟩
  (.seq ⟨some 26, none, (.call (.cst (.fn 48 [])) [(.tmp 24), (.tmp 25)])⟩
  (.seq ⟨some 20, none, (.ofA (.mv (.tmp 26)))⟩
  (.seq ⟨some 27, none, (.ofA (.extract 0 (.tmp 20)))⟩
  (.seq ⟨some 28, none, (.ofA (.extract 1 (.tmp 20)))⟩
  (.seq ⟨some 7, none, (.alloc [(.v (.int .i64 0)), (.v (.int .i64 0)), (.v (.string ⟨#[]⟩))])⟩
  (.seq ⟨none, none, (.store 3 (.tmp 7) (.tmp 27))⟩
  (.seq ⟨some 8, none, (.ofA (.mv (.tmp 28)))⟩
  .done)))))))))))))
 (.seq (.tree (.seq ⟨some 29, none, (.ofA (.mv (.tmp 8)))⟩
  .done))
 (.cond (.tmp 29)
 (.seq (.tree (.seq ⟨some 30, none, (.ofA (.faddr 2 (.tmp 7)))⟩
  (.seq ⟨some 31, none, (.ofA (.load none (.tmp 30)))⟩
  (.seq ⟨some 4, none, (.ofA (.mv (.tmp 31)))⟩
  (.seq ⟨some 5, none, (.ofA (.mv (.cst (.v (.int .i64 0)))))⟩
  .done)))))
 .ret)
 .skip)))
 (.seq (.tree (.seq ⟨some 33, none, (.ofA (.mv (.tmp 0)))⟩
  (.seq ⟨some 34, none, (.ofA (.nilc (.tmp 33)))⟩
  (.seq ⟨some 35, none, (.ofA (.faddr 7 (.tmp 34)))⟩
  (.seq ⟨some 36, none, (.ofA (.load none (.tmp 35)))⟩
  (.seq ⟨some 37, none, (.ofA (.mv (.tmp 1)))⟩
  (.seq ⟨some 38, none, (.call (.cst (.fn 49 [])) [(.tmp 36), (.tmp 37)])⟩
  (.seq ⟨some 32, none, (.ofA (.mv (.tmp 38)))⟩
  (.seq ⟨some 39, none, (.ofA (.extract 0 (.tmp 32)))⟩
  (.seq ⟨some 40, none, (.ofA (.extract 1 (.tmp 32)))⟩
  (.seq ⟨some 41, none, (.ofA (.extract 2 (.tmp 32)))⟩
  (.seq ⟨some 9, none, (.ofA (.mv (.tmp 39)))⟩
  (.seq ⟨some 10, none, (.ofA (.mv (.tmp 40)))⟩
  (.seq ⟨some 11, none, (.ofA (.mv (.tmp 41)))⟩
  .done))))))))))))))
 (.seq (.seq (.tree (.seq ⟨some 42, none, (.ofA (.mv (.tmp 11)))⟩
  (.seq ⟨some 43, none, (.ofA (.un .not (.tmp 42)))⟩
  .done)))
 (.cond (.tmp 43)
 (.seq (.tree (.seq ⟨some 4, none, (.ofA (.mv (.cst (.v (.string ⟨#[]⟩)))))⟩
  (.seq ⟨some 5, none, (.ofA (.mv (.cst (.v (.int .i64 0)))))⟩
  .done)))
 .ret)
 .skip))
 (.seq (.tree (.take ⟨some 45, none, (.ofA (.mv (.tmp 0)))⟩
  (.take ⟨some 46, none, (.ofA (.nilc (.tmp 45)))⟩
  (.take ⟨some 47, none, (.ofA (.faddr 0 (.tmp 46)))⟩
  (.take ⟨some 48, none, (.ofA (.load none (.tmp 47)))⟩
  (.take ⟨some 49, none, (.ofA (.mv (.tmp 0)))⟩
  (.take ⟨some 50, none, (.ofA (.nilc (.tmp 49)))⟩
  (.take ⟨some 51, none, (.ofA (.faddr 2 (.tmp 50)))⟩
  (.take ⟨some 52, none, (.ofA (.faddr 4 (.tmp 51)))⟩
  (.take ⟨some 53, none, (.ofA (.load none (.tmp 52)))⟩
  (.take ⟨some 54, none, (.ofA (.mv (.tmp 9)))⟩
  (.take ⟨some 55, none, (.ofA (.mv (.tmp 10)))⟩
  (.alt [true, true] [(⟨some 56, none, (.call (.cst (.fn 50 [])) [(.tmp 48), (.tmp 53), (.tmp 54), (.tmp 55)])⟩,
 (.take ⟨some 44, none, (.ofA (.mv (.tmp 56)))⟩
  (.take ⟨some 57, none, (.ofA (.extract 0 (.tmp 44)))⟩
  (.take ⟨some 58, none, (.ofA (.extract 1 (.tmp 44)))⟩
  (.alt [true] [(⟨some 12, none, (.alloc [(.v (.int .i64 0)), (.v (.int .i64 0)), (.v (.bool false)), (.v (.int .i64 0)), (.v (.int .i64 0)), (.v (.int .i64 0)), (.v (.int .i64 0)), (.v (.int .i64 0)), (.v (.bool false)), (.v (.string ⟨#[]⟩))])⟩,
 (.alt [false] [(⟨none, none, (.store 10 (.tmp 12) (.tmp 57))⟩,
 (.take ⟨some 13, none, (.ofA (.mv (.tmp 58)))⟩
  .done))]))]))))), (⟨some 12, none, (.alloc [(.v (.int .i64 0)), (.v (.int .i64 0)), (.v (.bool false)), (.v (.int .i64 0)), (.v (.int .i64 0)), (.v (.int .i64 0)), (.v (.int .i64 0)), (.v (.int .i64 0)), (.v (.bool false)), (.v (.string ⟨#[]⟩))])⟩,
 (.alt [true] [(⟨some 56, none, (.call (.cst (.fn 50 [])) [(.tmp 48), (.tmp 53), (.tmp 54), (.tmp 55)])⟩,
 (.take ⟨some 44, none, (.ofA (.mv (.tmp 56)))⟩
  (.take ⟨some 57, none, (.ofA (.extract 0 (.tmp 44)))⟩
  (.take ⟨some 58, none, (.ofA (.extract 1 (.tmp 44)))⟩
  (.alt [false] [(⟨none, none, (.store 10 (.tmp 12) (.tmp 57))⟩,
 (.take ⟨some 13, none, (.ofA (.mv (.tmp 58)))⟩
  .done))])))))]))])))))))))))))
 (.seq (.seq (.tree (.seq ⟨some 59, none, (.ofA (.mv (.tmp 13)))⟩
  (.seq ⟨some 60, none, (.ofA (.bin .neq (.tmp 59) (.cst (.v (.int .i64 0)))))⟩
  (.seq ⟨some 61, none, (.ofA (.mv (.tmp 60)))⟩
  (.seq ⟨some 62, some (61, false), (.ofA (.faddr 3 (.tmp 12)))⟩
  (.seq ⟨some 63, some (61, false), (.ofA (.faddr 4 (.tmp 62)))⟩
  (.seq ⟨some 64, some (61, false), (.ofA (.load none (.tmp 63)))⟩
  (.seq ⟨some 65, some (61, false), (.ofA (.bin .eql (.tmp 64) (.cst (.v (.int .i64 2)))))⟩
  (.seq ⟨some 66, none, (.ofA (.pick (.tmp 61) (.cst (.v (.bool true))) (.tmp 65)))⟩
  .done)))))))))
 (.cond (.tmp 66)
 (.seq (.tree (.seq ⟨some 67, none, (.ofA (.mv (.tmp 13)))⟩
  (.seq ⟨some 4, none, (.ofA (.mv (.cst (.v (.string ⟨#[]⟩)))))⟩
  (.seq ⟨some 5, none, (.ofA (.mv (.tmp 67)))⟩
  .done))))
 .ret)
 .skip))
 (.seq (.tree (.seq ⟨some 68, none, (.ofA (.faddr 9 (.tmp 12)))⟩
  (.seq ⟨some 69, none, (.ofA (.load none (.tmp 68)))⟩
  (.seq ⟨some 4, none, (.ofA (.mv (.tmp 69)))⟩
  (.seq ⟨some 5, none, (.ofA (.mv (.cst (.v (.int .i64 0)))))⟩
  .done)))))
 .ret))))))))
def r7 : List XR := [.tmp 4, .tmp 5]
theorem fn7 : FnX Tryz.prog 7 EFF 70 x7 r7 := ⟨_, Tryz.func7, by kernel_rfl, by kernel_rfl, by kernel_rfl, by kernel_rfl⟩
-- (*almshouse/store.Store).Give (1 parameters)
def x8 : XC := (.seq (.tree (.seq ⟨some 2, none, (.ofA (.mv (.cst (.v (.int .i64 0)))))⟩
  (.seq ⟨some 3, none, (.ofA (.mv (.cst (.v (.bool false)))))⟩
  .done)))
 (.seq (.seq (.tree (.seq ⟨some 5, none, (.ofA (.mv (.tmp 0)))⟩
  (.seq ⟨some 6, none, (.call (.cst (.fn 19 [])) [(.tmp 5)])⟩
  (.seq ⟨some 4, none, (.ofA (.mv (.tmp 6)))⟩
  .done))))
 (.seq (.tree (.seq ⟨some 7, none, (.ofA (.mv (.tmp 4)))⟩
  (.seq ⟨some 8, none, (.ofA (.len (.tmp 7)))⟩
  (.seq ⟨some 9, none, (.ofA (.bin .gtr (.tmp 8) (.cst (.v (.int .i64 0)))))⟩
  .done))))
 (.cond (.tmp 9)
 (.seq (.tree (.seq ⟨some 10, none, (.ofA (.mv (.tmp 4)))⟩
  (.seq ⟨some 11, none, (.ofA (.isl 1 (.tmp 10) (.cst (.v (.int .i64 0)))))⟩
  (.seq ⟨some 12, none, (.ofA (.load none (.tmp 11)))⟩
  (.seq ⟨some 2, none, (.ofA (.mv (.tmp 12)))⟩
  (.seq ⟨some 3, none, (.ofA (.mv (.cst (.v (.bool true)))))⟩
  .done))))))
 .ret)
 .skip)))
 (.seq (.tree (.seq ⟨some 2, none, (.ofA (.mv (.cst (.v (.int .i64 0)))))⟩
  (.seq ⟨some 3, none, (.ofA (.mv (.cst (.v (.bool false)))))⟩
  .done)))
 .ret)))
def r8 : List XR := [.tmp 2, .tmp 3]
theorem fn8 : FnX Tryz.prog 8 EFF 13 x8 r8 := ⟨_, Tryz.func8, by kernel_rfl, by kernel_rfl, by kernel_rfl, by kernel_rfl⟩
-- (*almshouse/store.Store).Resize (3 parameters)
def x9 : XC := (.seq (.seq (.tree (.seq ⟨some 7, none, (.ofA (.mv (.tmp 0)))⟩
  (.seq ⟨some 8, none, (.ofA (.eqn false 1 (.tmp 7) (.cst (.v (.pointer none)))))⟩
  .done)))
 (.cond (.tmp 8)
 .ret
 .skip))
 (.seq (.seq (.tree (.seq ⟨some 9, none, (.ofA (.mv (.tmp 1)))⟩
  (.seq ⟨some 10, none, (.ofA (.mx true (.tmp 9) [(.cst (.v (.int .i64 0)))]))⟩
  (.seq ⟨some 6, none, (.ofA (.mv (.tmp 10)))⟩
  .done))))
 (.block 0 (.loop (.seq (.seq (.tree (.seq ⟨some 11, none, (.ofA (.mv (.tmp 6)))⟩
  (.seq ⟨some 12, none, (.ofA (.bin .lss (.tmp 11) (.cst (.v (.int .i64 64)))))⟩
  .done)))
 (.cond (.tmp 12)
 .skip
 (.exit 0)))
 (.seq (.block 1 (.tree (.seq ⟨some 15, none, (.ofA (.mv (.tmp 0)))⟩
  (.seq ⟨some 16, none, (.ofA (.nilc (.tmp 15)))⟩
  (.seq ⟨some 17, none, (.ofA (.faddr 7 (.tmp 16)))⟩
  (.seq ⟨some 18, none, (.ofA (.load none (.tmp 17)))⟩
  (.seq ⟨some 19, none, (.ofA (.mv (.tmp 6)))⟩
  (.seq ⟨some 20, none, (.call (.cst (.fn 51 [])) [(.tmp 18), (.tmp 19)])⟩
  .done))))))))
 (.tree (.seq ⟨some 13, none, (.ofA (.mv (.tmp 6)))⟩
  (.seq ⟨some 14, none, (.ofA (.bin .add (.tmp 13) (.cst (.v (.int .i64 1)))))⟩
  (.seq ⟨some 6, none, (.ofA (.mv (.tmp 14)))⟩
  .done)))))))))
 (.seq (.tree (.seq ⟨some 21, none, (.ofA (.mv (.tmp 0)))⟩
  (.seq ⟨some 22, none, (.ofA (.nilc (.tmp 21)))⟩
  (.seq ⟨some 23, none, (.ofA (.faddr 7 (.tmp 22)))⟩
  (.seq ⟨some 24, none, (.ofA (.load none (.tmp 23)))⟩
  (.seq ⟨some 25, none, (.ofA (.mv (.tmp 2)))⟩
  (.seq ⟨some 26, none, (.ofA (.len (.tmp 25)))⟩
  (.seq ⟨some 27, none, (.call (.cst (.fn 52 [])) [(.tmp 24), (.tmp 26)])⟩
  .done))))))))
 (.seq (.tree (.seq ⟨some 28, none, (.ofA (.mv (.tmp 0)))⟩
  (.seq ⟨some 29, none, (.ofA (.mv (.tmp 1)))⟩
  (.seq ⟨some 30, none, (.ofA (.nilc (.tmp 28)))⟩
  (.seq ⟨some 31, none, (.ofA (.faddr 2 (.tmp 30)))⟩
  (.seq ⟨some 32, none, (.ofA (.faddr 2 (.tmp 31)))⟩
  (.seq ⟨none, none, (.store 1 (.tmp 32) (.tmp 29))⟩
  .done)))))))
 (.tree (.seq ⟨some 33, none, (.ofA (.mv (.tmp 0)))⟩
  (.seq ⟨some 34, none, (.ofA (.mv (.tmp 0)))⟩
  (.seq ⟨some 35, none, (.ofA (.nilc (.tmp 34)))⟩
  (.seq ⟨some 36, none, (.ofA (.faddr 2 (.tmp 35)))⟩
  (.seq ⟨some 37, none, (.ofA (.faddr 4 (.tmp 36)))⟩
  (.seq ⟨some 38, none, (.ofA (.load none (.tmp 37)))⟩
  (.seq ⟨some 39, none, (.ofA (.mv (.tmp 2)))⟩
  (.seq ⟨some 40, none, (.app 1 8 (.tmp 38) (.tmp 39))⟩
  (.seq ⟨some 41, none, (.ofA (.nilc (.tmp 33)))⟩
  (.seq ⟨some 42, none, (.ofA (.faddr 2 (.tmp 41)))⟩
  (.seq ⟨some 43, none, (.ofA (.faddr 4 (.tmp 42)))⟩
  (.seq ⟨none, none, (.store 1 (.tmp 43) (.tmp 40))⟩
  .done)))))))))))))))))
def r9 : List XR := []
theorem fn9 : FnX Tryz.prog 9 EFF 44 x9 r9 := ⟨_, Tryz.func9, by kernel_rfl, by kernel_rfl, by kernel_rfl, by kernel_rfl⟩
-- (*almshouse/store.Store).Take (3 parameters)
def x10 : XC := (.seq (.tree (.seq ⟨some 6, none, (.ofA (.mv (.tmp 0)))⟩
  (.seq ⟨some 7, none, (.ofA (.eqn true 1 (.tmp 6) (.cst (.v (.pointer none)))))⟩
  (.seq ⟨some 8, none, (.ofA (.mv (.tmp 7)))⟩
  (.seq ⟨some 9, some (8, true), (.ofA (.mv (.tmp 1)))⟩
  (.seq ⟨some 10, some (8, true), (.ofA (.bin .geq (.tmp 9) (.cst (.v (.int .i64 0)))))⟩
  (.seq ⟨some 11, none, (.ofA (.pick (.tmp 8) (.tmp 10) (.cst (.v (.bool false)))))⟩
  (.seq ⟨some 12, none, (.ofA (.mv (.tmp 11)))⟩
  (.seq ⟨some 13, some (12, true), (.ofA (.mv (.tmp 1)))⟩
  (.seq ⟨some 14, some (12, true), (.ofA (.mv (.tmp 0)))⟩
  (.seq ⟨some 15, some (12, true), (.ofA (.nilc (.tmp 14)))⟩
  (.seq ⟨some 16, some (12, true), (.ofA (.faddr 2 (.tmp 15)))⟩
  (.seq ⟨some 17, some (12, true), (.ofA (.faddr 4 (.tmp 16)))⟩
  (.seq ⟨some 18, some (12, true), (.ofA (.load none (.tmp 17)))⟩
  (.seq ⟨some 19, some (12, true), (.ofA (.len (.tmp 18)))⟩
  (.seq ⟨some 20, some (12, true), (.ofA (.bin .lss (.tmp 13) (.tmp 19)))⟩
  (.seq ⟨some 21, none, (.ofA (.pick (.tmp 12) (.tmp 20) (.cst (.v (.bool false)))))⟩
  .done)))))))))))))))))
 (.cond (.tmp 21)
 (.tree (.seq ⟨some 22, none, (.ofA (.mv (.tmp 0)))⟩
  (.seq ⟨some 23, none, (.ofA (.nilc (.tmp 22)))⟩
  (.seq ⟨some 24, none, (.ofA (.faddr 2 (.tmp 23)))⟩
  (.seq ⟨some 25, none, (.ofA (.faddr 4 (.tmp 24)))⟩
  (.seq ⟨some 26, none, (.ofA (.load none (.tmp 25)))⟩
  (.seq ⟨some 27, none, (.ofA (.mv (.tmp 1)))⟩
  (.seq ⟨some 28, none, (.ofA (.mv (.tmp 2)))⟩
  (.seq ⟨some 29, none, (.ofA (.isl 1 (.tmp 26) (.tmp 27)))⟩
  (.seq ⟨none, none, (.store 1 (.tmp 29) (.tmp 28))⟩
  .done))))))))))
 .skip))
def r10 : List XR := []
theorem fn10 : FnX Tryz.prog 10 EFF 30 x10 r10 := ⟨_, Tryz.func10, by kernel_rfl, by kernel_rfl, by kernel_rfl, by kernel_rfl⟩
-- almshouse/store.New (3 parameters)
def x11 : XC := (.seq (.tree (.seq ⟨some 5, none, (.box (.tmp 2))⟩
  (.seq ⟨some 6, none, (.ofA (.mv (.cst (.v (.pointer none)))))⟩
  (.seq ⟨some 7, none, (.ofA (.mv (.cst (.v (.int .i64 0)))))⟩
  .done))))
 (.seq (.seq (.tree (.seq ⟨some 9, none, (.ofA (.mv (.tmp 0)))⟩
  (.seq ⟨some 10, none, (.ofA (.eqn false 1 (.tmp 9) (.cst (.v (.pointer none)))))⟩
  (.seq ⟨some 11, none, (.ofA (.mv (.tmp 10)))⟩
  (.seq ⟨some 12, some (11, false), (.ofA (.mv (.tmp 1)))⟩
  (.seq ⟨some 13, some (11, false), (.ofA (.bin .lss (.tmp 12) (.cst (.v (.int .i64 0)))))⟩
  (.seq ⟨some 14, none, (.ofA (.pick (.tmp 11) (.cst (.v (.bool true))) (.tmp 13)))⟩
  (.seq ⟨some 15, none, (.ofA (.mv (.tmp 14)))⟩
  (.seq ⟨some 16, some (15, false), (.ofA (.mv (.tmp 1)))⟩
  (.seq ⟨some 17, some (15, false), (.ofA (.bin .geq (.tmp 16) (.cst (.v (.int .i64 4)))))⟩
  (.seq ⟨some 18, none, (.ofA (.pick (.tmp 15) (.cst (.v (.bool true))) (.tmp 17)))⟩
  (.seq ⟨some 19, none, (.ofA (.mv (.tmp 18)))⟩
  (.seq ⟨some 20, some (19, false), (.ofA (.faddr 0 (.tmp 5)))⟩
  (.seq ⟨some 21, some (19, false), (.ofA (.load none (.tmp 20)))⟩
  (.seq ⟨some 22, some (19, false), (.ofA (.un .not (.tmp 21)))⟩
  (.seq ⟨some 23, none, (.ofA (.pick (.tmp 19) (.cst (.v (.bool true))) (.tmp 22)))⟩
  .done))))))))))))))))
 (.cond (.tmp 23)
 (.seq (.tree (.seq ⟨some 6, none, (.ofA (.mv (.cst (.v (.pointer none)))))⟩
  (.seq ⟨some 7, none, (.ofA (.mv (.cst (.v (.int .i64 1)))))⟩
  .done)))
 .ret)
 .skip))
 (.seq (.tree (.take ⟨some 24, none, (.ofA (.faddr 4 (.tmp 5)))⟩
  (.take ⟨some 25, none, (.ofA (.load none (.tmp 24)))⟩
  (.take ⟨some 26, none, (.ofA (.len (.tmp 25)))⟩
  (.take ⟨some 27, none, (.ofA (.mv (.tmp 0)))⟩
  (.act true [(⟨some 28, none, (.call (.cst (.fn 54 [])) [(.tmp 27)])⟩,
 (.take ⟨some 29, none, (.ofA (.field 3 none (.tmp 28)))⟩
  (.act true [(⟨some 30, none, (.call (.cst (.fn 53 [])) [(.tmp 26), (.tmp 29)])⟩,
 (.take ⟨some 8, none, (.ofA (.mv (.tmp 30)))⟩
  .done))])))]))))))
 (.seq (.seq (.tree (.seq ⟨some 31, none, (.ofA (.mv (.tmp 8)))⟩
  (.seq ⟨some 32, none, (.ofA (.eqn false 1 (.tmp 31) (.cst (.v (.pointer none)))))⟩
  .done)))
 (.cond (.tmp 32)
 (.seq (.tree (.seq ⟨some 6, none, (.ofA (.mv (.cst (.v (.pointer none)))))⟩
  (.seq ⟨some 7, none, (.ofA (.mv (.cst (.v (.int .i64 1)))))⟩
  .done)))
 .ret)
 .skip))
 (.seq (.tree (.seq ⟨some 33, none, (.ofA (.faddr 4 (.tmp 5)))⟩
  (.seq ⟨some 34, none, (.ofA (.load none (.tmp 33)))⟩
  (.seq ⟨some 35, none, (.call (.cst (.fn 55 [])) [(.tmp 34)])⟩
  (.seq ⟨some 36, none, (.ofA (.faddr 4 (.tmp 5)))⟩
  (.seq ⟨none, none, (.store 1 (.tmp 36) (.tmp 35))⟩
  .done))))))
 (.seq (.tree (.take ⟨some 37, none, (.ofA (.mv (.tmp 0)))⟩
  (.take ⟨some 38, none, (.ofA (.mv (.tmp 1)))⟩
  (.take ⟨some 39, none, (.ofA (.load (some 5) (.tmp 5)))⟩
  (.take ⟨some 40, none, (.ofA (.mv (.tmp 8)))⟩
  (.act true [(⟨some 41, none, (.call (.cst (.fn 56 [])) [])⟩,
 (.act true [(⟨some 42, none, (.build [(.v (.pointer none)), (.v (.int .i64 0)), (.v (.bool false)), (.v (.int .i64 0)), (.v (.int .i64 0)), (.v (.int .i64 0)), (.v (.slice none 0 0)), (.v (.pointer none)), (.v (.pointer none)), (.v (.int .i64 0)), (.v (.int .i64 0)), (.v (.bool false))] [(0, 1, (.tmp 37)), (1, 1, (.tmp 38)), (2, 5, (.tmp 39)), (7, 1, (.tmp 40)), (8, 1, (.tmp 41)), (10, 1, (.cst (.v (.int .i64 (-1)))))])⟩,
 (.act true [(⟨some 43, none, (.box (.tmp 42))⟩,
 (.take ⟨some 6, none, (.ofA (.mv (.tmp 43)))⟩
  (.take ⟨some 7, none, (.ofA (.mv (.cst (.v (.int .i64 0)))))⟩
  .done)))]))]))]))))))
 .ret))))))
def r11 : List XR := [.tmp 6, .tmp 7]
theorem fn11 : FnX Tryz.prog 11 EFF 44 x11 r11 := ⟨_, Tryz.func11, by kernel_rfl, by kernel_rfl, by kernel_rfl, by kernel_rfl⟩
-- (*almshouse/store.Store).Write (3 parameters)
def x12 : XC := (.seq (.tree (.seq ⟨some 6, none, (.ofA (.mv (.cst (.v (.int .i64 0)))))⟩
  .done))
 (.seq (.tree (.seq ⟨some 7, none, (.ofA (.mv (.tmp 0)))⟩
  (.seq ⟨some 8, none, (.ofA (.mv (.tmp 1)))⟩
  (.seq ⟨some 9, none, (.ofA (.mv (.tmp 2)))⟩
  (.seq ⟨some 10, none, (.build [(.v (.int .i64 0)), (.v (.int .i64 0)), (.v (.string ⟨#[]⟩))] [(0, 1, (.tmp 8)), (1, 1, (.cst (.v (.int .i64 1)))), (2, 1, (.tmp 9))])⟩
  (.seq ⟨some 11, none, (.call (.cst (.fn 57 [])) [(.tmp 7), (.tmp 10)])⟩
  (.seq ⟨some 6, none, (.ofA (.mv (.tmp 11)))⟩
  .done)))))))
 .ret))
def r12 : List XR := [.tmp 6]
theorem fn12 : FnX Tryz.prog 12 EFF 12 x12 r12 := ⟨_, Tryz.func12, by kernel_rfl, by kernel_rfl, by kernel_rfl, by kernel_rfl⟩
-- (*almshouse/store.Store).Trim (2 parameters)
def x13 : XC := (.seq (.tree (.seq ⟨some 4, none, (.ofA (.mv (.cst (.v (.int .i64 0)))))⟩
  .done))
 (.seq (.tree (.seq ⟨some 5, none, (.ofA (.mv (.tmp 0)))⟩
  (.seq ⟨some 6, none, (.ofA (.mv (.tmp 1)))⟩
  (.seq ⟨some 7, none, (.build [(.v (.int .i64 0)), (.v (.int .i64 0)), (.v (.string ⟨#[]⟩))] [(0, 1, (.tmp 6)), (1, 1, (.cst (.v (.int .i64 2))))])⟩
  (.seq ⟨some 8, none, (.call (.cst (.fn 57 [])) [(.tmp 5), (.tmp 7)])⟩
  (.seq ⟨some 4, none, (.ofA (.mv (.tmp 8)))⟩
  .done))))))
 .ret))
def r13 : List XR := [.tmp 4]
theorem fn13 : FnX Tryz.prog 13 EFF 9 x13 r13 := ⟨_, Tryz.func13, by kernel_rfl, by kernel_rfl, by kernel_rfl, by kernel_rfl⟩
-- (*almshouse/store.Store).Flush (1 parameters)
def x14 : XC := (.seq (.tree (.seq ⟨some 2, none, (.ofA (.mv (.cst (.v (.int .i64 0)))))⟩
  .done))
 (.seq (.block 0 (.seq (.tree (.seq ⟨some 5, none, (.ofA (.mv (.tmp 0)))⟩
  (.seq ⟨some 6, none, (.ofA (.eqn false 1 (.tmp 5) (.cst (.v (.pointer none)))))⟩
  (.seq ⟨some 4, none, (.ofA (.mv (.tmp 6)))⟩
  .done))))
 (.cond (.tmp 4)
 (.seq (.tree (.seq ⟨some 2, none, (.ofA (.mv (.cst (.v (.int .i64 1)))))⟩
  .done))
 .ret)
 (.seq (.tree (.seq ⟨some 8, none, (.ofA (.mv (.tmp 0)))⟩
  (.seq ⟨some 9, none, (.ofA (.nilc (.tmp 8)))⟩
  (.seq ⟨some 10, none, (.ofA (.faddr 11 (.tmp 9)))⟩
  (.seq ⟨some 11, none, (.ofA (.load none (.tmp 10)))⟩
  (.seq ⟨some 7, none, (.ofA (.mv (.tmp 11)))⟩
  .done))))))
 (.cond (.tmp 7)
 (.seq (.tree (.seq ⟨some 2, none, (.ofA (.mv (.cst (.v (.int .i64 13)))))⟩
  .done))
 .ret)
 .skip)))))
 (.seq (.block 1 (.loop (.seq (.seq (.tree (.seq ⟨some 12, none, (.ofA (.mv (.tmp 0)))⟩
  (.seq ⟨some 13, none, (.ofA (.nilc (.tmp 12)))⟩
  (.seq ⟨some 14, none, (.ofA (.faddr 8 (.tmp 13)))⟩
  (.seq ⟨some 15, none, (.ofA (.load none (.tmp 14)))⟩
  (.seq ⟨some 16, none, (.call (.cst (.fn 58 [])) [(.tmp 15)])⟩
  (.seq ⟨some 17, none, (.ofA (.bin .gtr (.tmp 16) (.cst (.v (.int .i64 0)))))⟩
  .done)))))))
 (.cond (.tmp 17)
 .skip
 (.exit 1)))
 (.block 2 (.seq (.tree (.seq ⟨some 18, none, (.ofA (.mv (.tmp 0)))⟩
  (.seq ⟨some 19, none, (.call (.cst (.fn 59 [])) [(.tmp 18)])⟩
  (.seq ⟨some 3, none, (.ofA (.mv (.tmp 19)))⟩
  .done))))
 (.seq (.tree (.seq ⟨some 20, none, (.ofA (.mv (.tmp 3)))⟩
  (.seq ⟨some 21, none, (.ofA (.bin .neq (.tmp 20) (.cst (.v (.int .i64 0)))))⟩
  .done)))
 (.cond (.tmp 21)
 (.seq (.tree (.seq ⟨some 22, none, (.ofA (.mv (.tmp 3)))⟩
  (.seq ⟨some 2, none, (.ofA (.mv (.tmp 22)))⟩
  .done)))
 .ret)
 .skip)))))))
 (.seq (.tree (.seq ⟨some 2, none, (.ofA (.mv (.cst (.v (.int .i64 0)))))⟩
  .done))
 .ret))))
def r14 : List XR := [.tmp 2]
theorem fn14 : FnX Tryz.prog 14 EFF 23 x14 r14 := ⟨_, Tryz.func14, by kernel_rfl, by kernel_rfl, by kernel_rfl, by kernel_rfl⟩
-- (*almshouse/store.Store).Collect (2 parameters)
def x15 : XC := (.seq (.tree (.seq ⟨some 4, none, (.ofA (.mv (.cst (.v (.int .i64 0)))))⟩
  .done))
 (.seq (.block 0 (.seq (.tree (.seq ⟨some 6, none, (.ofA (.mv (.tmp 0)))⟩
  (.seq ⟨some 7, none, (.ofA (.eqn false 1 (.tmp 6) (.cst (.v (.pointer none)))))⟩
  (.seq ⟨some 5, none, (.ofA (.mv (.tmp 7)))⟩
  .done))))
 (.cond (.tmp 5)
 (.seq (.tree (.seq ⟨some 4, none, (.ofA (.mv (.cst (.v (.int .i64 1)))))⟩
  .done))
 .ret)
 (.seq (.tree (.seq ⟨some 9, none, (.ofA (.mv (.tmp 0)))⟩
  (.seq ⟨some 10, none, (.ofA (.nilc (.tmp 9)))⟩
  (.seq ⟨some 11, none, (.ofA (.faddr 11 (.tmp 10)))⟩
  (.seq ⟨some 12, none, (.ofA (.load none (.tmp 11)))⟩
  (.seq ⟨some 8, none, (.ofA (.mv (.tmp 12)))⟩
  .done))))))
 (.cond (.tmp 8)
 (.seq (.tree (.seq ⟨some 4, none, (.ofA (.mv (.cst (.v (.int .i64 13)))))⟩
  .done))
 .ret)
 (.seq (.tree (.seq ⟨some 14, none, (.ofA (.mv (.tmp 1)))⟩
  (.seq ⟨some 15, none, (.ofA (.bin .lss (.tmp 14) (.cst (.v (.int .i64 0)))))⟩
  (.seq ⟨some 16, none, (.ofA (.mv (.tmp 15)))⟩
  (.seq ⟨some 17, some (16, false), (.ofA (.mv (.tmp 1)))⟩
  (.seq ⟨some 18, some (16, false), (.ofA (.mv (.tmp 0)))⟩
  (.seq ⟨some 19, some (16, false), (.ofA (.nilc (.tmp 18)))⟩
  (.seq ⟨some 20, some (16, false), (.ofA (.faddr 2 (.tmp 19)))⟩
  (.seq ⟨some 21, some (16, false), (.ofA (.faddr 4 (.tmp 20)))⟩
  (.seq ⟨some 22, some (16, false), (.ofA (.load none (.tmp 21)))⟩
  (.seq ⟨some 23, some (16, false), (.ofA (.len (.tmp 22)))⟩
  (.seq ⟨some 24, some (16, false), (.ofA (.bin .geq (.tmp 17) (.tmp 23)))⟩
  (.seq ⟨some 25, none, (.ofA (.pick (.tmp 16) (.cst (.v (.bool true))) (.tmp 24)))⟩
  (.seq ⟨some 13, none, (.ofA (.mv (.tmp 25)))⟩
  .done))))))))))))))
 (.cond (.tmp 13)
 (.seq (.tree (.seq ⟨some 4, none, (.ofA (.mv (.cst (.v (.int .i64 5)))))⟩
  .done))
 .ret)
 (.seq (.tree (.seq ⟨some 27, none, (.ofA (.mv (.tmp 0)))⟩
  (.seq ⟨some 28, none, (.ofA (.mv (.tmp 1)))⟩
  (.seq ⟨some 29, none, (.call (.cst (.fn 60 [])) [(.tmp 27), (.tmp 28)])⟩
  (.seq ⟨some 30, none, (.ofA (.mv (.tmp 29)))⟩
  (.seq ⟨some 31, some (30, false), (.ofA (.mv (.tmp 0)))⟩
  (.seq ⟨some 32, some (30, false), (.ofA (.mv (.tmp 1)))⟩
  (.seq ⟨some 33, some (30, false), (.call (.cst (.fn 61 [])) [(.tmp 31), (.tmp 32)])⟩
  (.seq ⟨some 34, some (30, false), (.ofA (.bin .eql (.tmp 33) (.cst (.v (.int .i64 0)))))⟩
  (.seq ⟨some 35, none, (.ofA (.pick (.tmp 30) (.cst (.v (.bool true))) (.tmp 34)))⟩
  (.seq ⟨some 36, none, (.ofA (.mv (.tmp 35)))⟩
  (.seq ⟨some 37, some (36, false), (.ofA (.mv (.tmp 0)))⟩
  (.seq ⟨some 38, some (36, false), (.ofA (.nilc (.tmp 37)))⟩
  (.seq ⟨some 39, some (36, false), (.ofA (.faddr 7 (.tmp 38)))⟩
  (.seq ⟨some 40, some (36, false), (.ofA (.load none (.tmp 39)))⟩
  (.seq ⟨some 41, some (36, false), (.ofA (.mv (.tmp 1)))⟩
  (.seq ⟨some 42, some (36, false), (.call (.cst (.fn 62 [])) [(.tmp 40), (.tmp 41)])⟩
  (.seq ⟨some 43, some (36, false), (.ofA (.mv (.tmp 0)))⟩
  (.seq ⟨some 44, some (36, false), (.call (.cst (.fn 63 [])) [(.tmp 43)])⟩
  (.seq ⟨some 45, some (36, false), (.ofA (.bin .eql (.tmp 42) (.tmp 44)))⟩
  (.seq ⟨some 46, none, (.ofA (.pick (.tmp 36) (.cst (.v (.bool true))) (.tmp 45)))⟩
  (.seq ⟨some 26, none, (.ofA (.mv (.tmp 46)))⟩
  .done))))))))))))))))))))))
 (.cond (.tmp 26)
 (.seq (.tree (.seq ⟨some 4, none, (.ofA (.mv (.cst (.v (.int .i64 1)))))⟩
  .done))
 .ret)
 .skip)))))))))
 (.seq (.tree (.seq ⟨some 47, none, (.ofA (.mv (.tmp 0)))⟩
  (.seq ⟨some 48, none, (.ofA (.mv (.tmp 1)))⟩
  (.seq ⟨some 49, none, (.call (.cst (.fn 64 [])) [(.tmp 47), (.tmp 48)])⟩
  (.seq ⟨some 4, none, (.ofA (.mv (.tmp 49)))⟩
  .done)))))
 .ret)))
def r15 : List XR := [.tmp 4]
theorem fn15 : FnX Tryz.prog 15 EFF 50 x15 r15 := ⟨_, Tryz.func15, by kernel_rfl, by kernel_rfl, by kernel_rfl, by kernel_rfl⟩
-- (*almshouse/store.Store).Purge (2 parameters)
def x16 : XC := (.seq (.tree (.seq ⟨some 4, none, (.ofA (.mv (.cst (.v (.int .i64 0)))))⟩
  .done))
 (.seq (.block 0 (.seq (.tree (.seq ⟨some 11, none, (.ofA (.mv (.tmp 0)))⟩
  (.seq ⟨some 12, none, (.ofA (.eqn false 1 (.tmp 11) (.cst (.v (.pointer none)))))⟩
  (.seq ⟨some 10, none, (.ofA (.mv (.tmp 12)))⟩
  .done))))
 (.cond (.tmp 10)
 (.seq (.tree (.seq ⟨some 4, none, (.ofA (.mv (.cst (.v (.int .i64 1)))))⟩
  .done))
 .ret)
 (.seq (.tree (.seq ⟨some 14, none, (.ofA (.mv (.tmp 0)))⟩
  (.seq ⟨some 15, none, (.ofA (.nilc (.tmp 14)))⟩
  (.seq ⟨some 16, none, (.ofA (.faddr 11 (.tmp 15)))⟩
  (.seq ⟨some 17, none, (.ofA (.load none (.tmp 16)))⟩
  (.seq ⟨some 13, none, (.ofA (.mv (.tmp 17)))⟩
  .done))))))
 (.cond (.tmp 13)
 (.seq (.tree (.seq ⟨some 4, none, (.ofA (.mv (.cst (.v (.int .i64 13)))))⟩
  .done))
 .ret)
 .skip)))))
 (.seq (.tree (.take ⟨some 19, none, (.ofA (.mv (.tmp 0)))⟩
  (.take ⟨some 20, none, (.ofA (.nilc (.tmp 19)))⟩
  (.take ⟨some 21, none, (.ofA (.faddr 0 (.tmp 20)))⟩
  (.take ⟨some 22, none, (.ofA (.load none (.tmp 21)))⟩
  (.take ⟨some 23, none, (.ofA (.mv (.tmp 0)))⟩
  (.take ⟨some 24, none, (.ofA (.nilc (.tmp 23)))⟩
  (.take ⟨some 25, none, (.ofA (.faddr 2 (.tmp 24)))⟩
  (.take ⟨some 26, none, (.ofA (.faddr 4 (.tmp 25)))⟩
  (.take ⟨some 27, none, (.ofA (.load none (.tmp 26)))⟩
  (.act true [(⟨some 28, none, (.call (.cst (.fn 65 [])) [(.tmp 22), (.tmp 27)])⟩,
 (.take ⟨some 18, none, (.ofA (.mv (.tmp 28)))⟩
  (.take ⟨some 29, none, (.ofA (.extract 0 (.tmp 18)))⟩
  (.take ⟨some 30, none, (.ofA (.extract 1 (.tmp 18)))⟩
  (.take ⟨some 5, none, (.ofA (.mv (.tmp 29)))⟩
  (.take ⟨some 6, none, (.ofA (.mv (.tmp 30)))⟩
  .done))))))])))))))))))
 (.seq (.seq (.tree (.seq ⟨some 31, none, (.ofA (.mv (.tmp 6)))⟩
  (.seq ⟨some 32, none, (.ofA (.bin .neq (.tmp 31) (.cst (.v (.int .i64 0)))))⟩
  .done)))
 (.cond (.tmp 32)
 (.seq (.tree (.seq ⟨some 33, none, (.ofA (.mv (.tmp 6)))⟩
  (.seq ⟨some 4, none, (.ofA (.mv (.tmp 33)))⟩
  .done)))
 .ret)
 .skip))
 (.seq (.seq (.tree (.take ⟨some 34, none, (.ofA (.mv (.tmp 5)))⟩
  (.take ⟨some 35, none, (.ofA (.mv (.tmp 0)))⟩
  (.take ⟨some 36, none, (.ofA (.nilc (.tmp 35)))⟩
  (.take ⟨some 37, none, (.ofA (.faddr 2 (.tmp 36)))⟩
  (.take ⟨some 38, none, (.ofA (.faddr 4 (.tmp 37)))⟩
  (.take ⟨some 39, none, (.ofA (.load none (.tmp 38)))⟩
  (.take ⟨some 40, none, (.ofA (.len (.tmp 39)))⟩
  (.take ⟨some 41, none, (.ofA (.mv (.tmp 0)))⟩
  (.take ⟨some 42, none, (.ofA (.nilc (.tmp 41)))⟩
  (.take ⟨some 43, none, (.ofA (.faddr 1 (.tmp 42)))⟩
  (.take ⟨some 44, none, (.ofA (.load none (.tmp 43)))⟩
  (.take ⟨some 45, none, (.ofA (.mv (.tmp 0)))⟩
  (.take ⟨some 46, none, (.ofA (.nilc (.tmp 45)))⟩
  (.take ⟨some 47, none, (.ofA (.faddr 2 (.tmp 46)))⟩
  (.take ⟨some 48, none, (.ofA (.faddr 1 (.tmp 47)))⟩
  (.take ⟨some 49, none, (.ofA (.load none (.tmp 48)))⟩
  (.take ⟨some 50, none, (.ofA (.mv (.tmp 1)))⟩
  (.take ⟨some 53, none, (.ofA (.mv (.cst (.v (.int .i64 0)))))⟩
  (.act true [(⟨some 51, none, (.call (.cst (.fn 66 [])) [(.tmp 34), (.tmp 40), (.tmp 44), (.tmp 49), (.tmp 50)])⟩,
 (.take ⟨some 52, none, (.ofA (.len (.tmp 51)))⟩
  .done))]))))))))))))))))))))
 (.block 1 (.loop (.seq (.tree (.seq ⟨some 54, none, (.ofA (.bin .lss (.tmp 53) (.tmp 52)))⟩
  .done))
 (.seq (.cond (.tmp 54)
 .skip
 (.exit 1))
 (.seq (.block 2 (.seq (.tree (.seq ⟨some 55, none, (.ofA (.isl 1 (.tmp 51) (.tmp 53)))⟩
  (.seq ⟨some 56, none, (.ofA (.load none (.tmp 55)))⟩
  (.seq ⟨some 8, none, (.ofA (.mv (.tmp 56)))⟩
  .done))))
 (.seq (.tree (.seq ⟨some 57, none, (.ofA (.mv (.tmp 0)))⟩
  (.seq ⟨some 58, none, (.ofA (.mv (.tmp 8)))⟩
  (.seq ⟨some 59, none, (.call (.cst (.fn 64 [])) [(.tmp 57), (.tmp 58)])⟩
  (.seq ⟨some 9, none, (.ofA (.mv (.tmp 59)))⟩
  .done)))))
 (.seq (.tree (.seq ⟨some 60, none, (.ofA (.mv (.tmp 9)))⟩
  (.seq ⟨some 61, none, (.ofA (.bin .neq (.tmp 60) (.cst (.v (.int .i64 0)))))⟩
  .done)))
 (.cond (.tmp 61)
 (.seq (.tree (.seq ⟨some 62, none, (.ofA (.mv (.tmp 9)))⟩
  (.seq ⟨some 4, none, (.ofA (.mv (.tmp 62)))⟩
  .done)))
 .ret)
 .skip)))))
 (.tree (.seq ⟨some 63, none, (.ofA (.bin .add (.tmp 53) (.cst (.v (.int .i64 1)))))⟩
  (.seq ⟨some 53, none, (.ofA (.mv (.tmp 63)))⟩
  .done)))))))))
 (.seq (.tree (.seq ⟨some 4, none, (.ofA (.mv (.cst (.v (.int .i64 0)))))⟩
  .done))
 .ret))))))
def r16 : List XR := [.tmp 4]
theorem fn16 : FnX Tryz.prog 16 EFF 64 x16 r16 := ⟨_, Tryz.func16, by kernel_rfl, by kernel_rfl, by kernel_rfl, by kernel_rfl⟩
-- (*almshouse/store.Store).Restore (2 parameters)
def x17 : XC := (.seq (.tree (.seq ⟨some 3, none, (.box (.tmp 1))⟩
  (.seq ⟨some 4, none, (.ofA (.mv (.cst (.v (.int .i64 0)))))⟩
  .done)))
 (.seq (.seq (.tree (.seq ⟨some 12, none, (.ofA (.mv (.tmp 0)))⟩
  (.seq ⟨some 13, none, (.ofA (.eqn false 1 (.tmp 12) (.cst (.v (.pointer none)))))⟩
  .done)))
 (.cond (.tmp 13)
 (.seq (.tree (.seq ⟨some 4, none, (.ofA (.mv (.cst (.v (.int .i64 1)))))⟩
  .done))
 .ret)
 .skip))
 (.seq (.seq (.tree (.seq ⟨some 14, none, (.ofA (.faddr 1 (.tmp 3)))⟩
  (.seq ⟨some 15, none, (.ofA (.load none (.tmp 14)))⟩
  (.seq ⟨some 16, none, (.ofA (.len (.tmp 15)))⟩
  (.seq ⟨some 17, none, (.ofA (.mv (.cst (.v (.int .i64 0)))))⟩
  .done)))))
 (.block 0 (.loop (.seq (.tree (.seq ⟨some 18, none, (.ofA (.bin .lss (.tmp 17) (.tmp 16)))⟩
  .done))
 (.seq (.cond (.tmp 18)
 .skip
 (.exit 0))
 (.seq (.block 1 (.seq (.tree (.seq ⟨some 19, none, (.ofA (.isl 1 (.tmp 15) (.tmp 17)))⟩
  (.seq ⟨some 20, none, (.ofA (.load none (.tmp 19)))⟩
  (.seq ⟨some 6, none, (.ofA (.mv (.tmp 20)))⟩
  .done))))
 (.seq (.seq (.tree (.seq ⟨some 21, none, (.ofA (.mv (.tmp 0)))⟩
  (.seq ⟨some 22, none, (.ofA (.nilc (.tmp 21)))⟩
  (.seq ⟨some 23, none, (.ofA (.faddr 11 (.tmp 22)))⟩
  (.seq ⟨some 24, none, (.ofA (.load none (.tmp 23)))⟩
  .done)))))
 (.cond (.tmp 24)
 (.exit 0)
 .skip))
 (.seq (.seq (.tree (.seq ⟨some 25, none, (.ofA (.mv (.tmp 6)))⟩
  (.seq ⟨some 26, none, (.ofA (.bin .lss (.tmp 25) (.cst (.v (.int .i64 0)))))⟩
  (.seq ⟨some 27, none, (.ofA (.mv (.tmp 26)))⟩
  (.seq ⟨some 28, some (27, false), (.ofA (.mv (.tmp 6)))⟩
  (.seq ⟨some 29, some (27, false), (.ofA (.mv (.tmp 0)))⟩
  (.seq ⟨some 30, some (27, false), (.ofA (.nilc (.tmp 29)))⟩
  (.seq ⟨some 31, some (27, false), (.ofA (.faddr 2 (.tmp 30)))⟩
  (.seq ⟨some 32, some (27, false), (.ofA (.faddr 4 (.tmp 31)))⟩
  (.seq ⟨some 33, some (27, false), (.ofA (.load none (.tmp 32)))⟩
  (.seq ⟨some 34, some (27, false), (.ofA (.len (.tmp 33)))⟩
  (.seq ⟨some 35, some (27, false), (.ofA (.bin .geq (.tmp 28) (.tmp 34)))⟩
  (.seq ⟨some 36, none, (.ofA (.pick (.tmp 27) (.cst (.v (.bool true))) (.tmp 35)))⟩
  .done)))))))))))))
 (.cond (.tmp 36)
 (.exit 1)
 .skip))
 (.seq (.tree (.seq ⟨some 37, none, (.ofA (.mv (.tmp 0)))⟩
  (.seq ⟨some 38, none, (.ofA (.mv (.tmp 6)))⟩
  (.seq ⟨some 39, none, (.call (.cst (.fn 67 [])) [(.tmp 37), (.tmp 38)])⟩
  (.seq ⟨some 7, none, (.ofA (.mv (.tmp 39)))⟩
  .done)))))
 (.seq (.tree (.seq ⟨some 40, none, (.ofA (.mv (.tmp 7)))⟩
  (.seq ⟨some 41, none, (.ofA (.bin .neq (.tmp 40) (.cst (.v (.int .i64 0)))))⟩
  (.seq ⟨some 42, none, (.ofA (.mv (.tmp 41)))⟩
  (.seq ⟨some 43, some (42, true), (.ofA (.mv (.tmp 7)))⟩
  (.seq ⟨some 44, some (42, true), (.ofA (.bin .neq (.tmp 43) (.cst (.v (.int .i64 13)))))⟩
  (.seq ⟨some 45, none, (.ofA (.pick (.tmp 42) (.tmp 44) (.cst (.v (.bool false)))))⟩
  .done)))))))
 (.cond (.tmp 45)
 (.seq (.tree (.seq ⟨some 46, none, (.ofA (.mv (.tmp 7)))⟩
  (.seq ⟨some 4, none, (.ofA (.mv (.tmp 46)))⟩
  .done)))
 .ret)
 .skip)))))))
 (.tree (.seq ⟨some 47, none, (.ofA (.bin .add (.tmp 17) (.cst (.v (.int .i64 1)))))⟩
  (.seq ⟨some 17, none, (.ofA (.mv (.tmp 47)))⟩
  .done)))))))))
 (.seq (.seq (.tree (.seq ⟨some 48, none, (.ofA (.faddr 0 (.tmp 3)))⟩
  (.seq ⟨some 49, none, (.ofA (.load none (.tmp 48)))⟩
  (.seq ⟨some 50, none, (.ofA (.len (.tmp 49)))⟩
  (.seq ⟨some 51, none, (.ofA (.mv (.cst (.v (.int .i64 0)))))⟩
  .done)))))
 (.block 2 (.loop (.seq (.tree (.seq ⟨some 52, none, (.ofA (.bin .lss (.tmp 51) (.tmp 50)))⟩
  .done))
 (.seq (.cond (.tmp 52)
 .skip
 (.exit 2))
 (.seq (.block 3 (.seq (.tree (.seq ⟨some 53, none, (.ofA (.isl 3 (.tmp 49) (.tmp 51)))⟩
  (.seq ⟨some 54, none, (.ofA (.load (some 3) (.tmp 53)))⟩
  (.seq ⟨some 9, none, (.alloc [(.v (.int .i64 0)), (.v (.int .i64 0)), (.v (.int .i64 0))])⟩
  (.seq ⟨none, none, (.store 3 (.tmp 9) (.tmp 54))⟩
  .done)))))
 (.tree (.take ⟨some 55, none, (.ofA (.mv (.tmp 0)))⟩
  (.take ⟨some 56, none, (.ofA (.nilc (.tmp 55)))⟩
  (.take ⟨some 57, none, (.ofA (.faddr 7 (.tmp 56)))⟩
  (.take ⟨some 58, none, (.ofA (.load none (.tmp 57)))⟩
  (.take ⟨some 59, none, (.ofA (.faddr 0 (.tmp 9)))⟩
  (.take ⟨some 60, none, (.ofA (.load none (.tmp 59)))⟩
  (.take ⟨some 61, none, (.ofA (.faddr 1 (.tmp 9)))⟩
  (.take ⟨some 62, none, (.ofA (.load none (.tmp 61)))⟩
  (.take ⟨some 63, none, (.ofA (.faddr 2 (.tmp 9)))⟩
  (.take ⟨some 64, none, (.ofA (.load none (.tmp 63)))⟩
  (.alt [false] [(⟨some 65, none, (.call (.cst (.fn 68 [])) [(.tmp 58), (.tmp 60), (.tmp 62), (.tmp 64)])⟩,
 .done)]))))))))))))))
 (.tree (.seq ⟨some 66, none, (.ofA (.bin .add (.tmp 51) (.cst (.v (.int .i64 1)))))⟩
  (.seq ⟨some 51, none, (.ofA (.mv (.tmp 66)))⟩
  .done)))))))))
 (.seq (.tree (.seq ⟨some 67, none, (.ofA (.mv (.tmp 0)))⟩
  (.seq ⟨some 68, none, (.ofA (.faddr 2 (.tmp 3)))⟩
  (.seq ⟨some 69, none, (.ofA (.load none (.tmp 68)))⟩
  (.seq ⟨some 70, none, (.ofA (.nilc (.tmp 67)))⟩
  (.seq ⟨some 71, none, (.ofA (.faddr 9 (.tmp 70)))⟩
  (.seq ⟨none, none, (.store 1 (.tmp 71) (.tmp 69))⟩
  .done)))))))
 (.seq (.seq (.tree (.seq ⟨some 72, none, (.ofA (.mv (.tmp 0)))⟩
  (.seq ⟨some 73, none, (.ofA (.nilc (.tmp 72)))⟩
  (.seq ⟨some 74, none, (.ofA (.faddr 2 (.tmp 73)))⟩
  (.seq ⟨some 75, none, (.ofA (.faddr 4 (.tmp 74)))⟩
  (.seq ⟨some 76, none, (.ofA (.load none (.tmp 75)))⟩
  (.seq ⟨some 77, none, (.ofA (.len (.tmp 76)))⟩
  (.seq ⟨some 78, none, (.ofA (.mv (.cst (.v (.int .i64 0)))))⟩
  .done))))))))
 (.block 4 (.loop (.seq (.tree (.seq ⟨some 79, none, (.ofA (.bin .lss (.tmp 78) (.tmp 77)))⟩
  .done))
 (.seq (.cond (.tmp 79)
 .skip
 (.exit 4))
 (.seq (.block 5 (.seq (.tree (.seq ⟨some 80, none, (.ofA (.mv (.tmp 78)))⟩
  (.seq ⟨some 10, none, (.ofA (.mv (.tmp 80)))⟩
  .done)))
 (.seq (.tree (.seq ⟨some 81, none, (.ofA (.mv (.tmp 0)))⟩
  (.seq ⟨some 82, none, (.ofA (.mv (.tmp 10)))⟩
  (.seq ⟨some 83, none, (.call (.cst (.fn 61 [])) [(.tmp 81), (.tmp 82)])⟩
  (.seq ⟨some 11, none, (.ofA (.mv (.tmp 83)))⟩
  .done)))))
 (.seq (.tree (.seq ⟨some 84, none, (.ofA (.mv (.tmp 0)))⟩
  (.seq ⟨some 85, none, (.ofA (.nilc (.tmp 84)))⟩
  (.seq ⟨some 86, none, (.ofA (.faddr 10 (.tmp 85)))⟩
  (.seq ⟨some 87, none, (.ofA (.load none (.tmp 86)))⟩
  (.seq ⟨some 88, none, (.ofA (.bin .eql (.tmp 87) (.cst (.v (.int .i64 (-1))))))⟩
  (.seq ⟨some 89, none, (.ofA (.mv (.tmp 88)))⟩
  (.seq ⟨some 90, some (89, true), (.ofA (.mv (.tmp 0)))⟩
  (.seq ⟨some 91, some (89, true), (.ofA (.mv (.tmp 10)))⟩
  (.seq ⟨some 92, some (89, true), (.call (.cst (.fn 60 [])) [(.tmp 90), (.tmp 91)])⟩
  (.seq ⟨some 93, some (89, true), (.ofA (.un .not (.tmp 92)))⟩
  (.seq ⟨some 94, none, (.ofA (.pick (.tmp 89) (.tmp 93) (.cst (.v (.bool false)))))⟩
  (.seq ⟨some 95, none, (.ofA (.mv (.tmp 94)))⟩
  (.seq ⟨some 96, some (95, true), (.ofA (.mv (.tmp 11)))⟩
  (.seq ⟨some 97, some (95, true), (.ofA (.bin .gtr (.tmp 96) (.cst (.v (.int .i64 0)))))⟩
  (.seq ⟨some 98, none, (.ofA (.pick (.tmp 95) (.tmp 97) (.cst (.v (.bool false)))))⟩
  (.seq ⟨some 99, none, (.ofA (.mv (.tmp 98)))⟩
  (.seq ⟨some 100, some (99, true), (.ofA (.mv (.tmp 11)))⟩
  (.seq ⟨some 101, some (99, true), (.ofA (.mv (.tmp 0)))⟩
  (.seq ⟨some 102, some (99, true), (.call (.cst (.fn 63 [])) [(.tmp 101)])⟩
  (.seq ⟨some 103, some (99, true), (.ofA (.bin .lss (.tmp 100) (.tmp 102)))⟩
  (.seq ⟨some 104, none, (.ofA (.pick (.tmp 99) (.tmp 103) (.cst (.v (.bool false)))))⟩
  .done))))))))))))))))))))))
 (.cond (.tmp 104)
 (.tree (.seq ⟨some 105, none, (.ofA (.mv (.tmp 0)))⟩
  (.seq ⟨some 106, none, (.ofA (.mv (.tmp 10)))⟩
  (.seq ⟨some 107, none, (.ofA (.nilc (.tmp 105)))⟩
  (.seq ⟨some 108, none, (.ofA (.faddr 10 (.tmp 107)))⟩
  (.seq ⟨none, none, (.store 1 (.tmp 108) (.tmp 106))⟩
  .done))))))
 .skip)))))
 (.tree (.seq ⟨some 109, none, (.ofA (.bin .add (.tmp 78) (.cst (.v (.int .i64 1)))))⟩
  (.seq ⟨some 78, none, (.ofA (.mv (.tmp 109)))⟩
  .done)))))))))
 (.seq (.tree (.seq ⟨some 4, none, (.ofA (.mv (.cst (.v (.int .i64 0)))))⟩
  .done))
 .ret)))))))
def r17 : List XR := [.tmp 4]
theorem fn17 : FnX Tryz.prog 17 EFF 110 x17 r17 := ⟨_, Tryz.func17, by kernel_rfl, by kernel_rfl, by kernel_rfl, by kernel_rfl⟩
-- (*almshouse/store.Store).ReadOnly (1 parameters)
def x18 : XC := (.seq (.tree (.seq ⟨some 2, none, (.ofA (.mv (.cst (.v (.bool false)))))⟩
  .done))
 (.seq (.tree (.seq ⟨some 3, none, (.ofA (.mv (.tmp 0)))⟩
  (.seq ⟨some 4, none, (.ofA (.eqn false 1 (.tmp 3) (.cst (.v (.pointer none)))))⟩
  (.seq ⟨some 5, none, (.ofA (.mv (.tmp 4)))⟩
  (.seq ⟨some 6, some (5, false), (.ofA (.mv (.tmp 0)))⟩
  (.seq ⟨some 7, some (5, false), (.ofA (.nilc (.tmp 6)))⟩
  (.seq ⟨some 8, some (5, false), (.ofA (.faddr 11 (.tmp 7)))⟩
  (.seq ⟨some 9, some (5, false), (.ofA (.load none (.tmp 8)))⟩
  (.seq ⟨some 10, none, (.ofA (.pick (.tmp 5) (.cst (.v (.bool true))) (.tmp 9)))⟩
  (.seq ⟨some 2, none, (.ofA (.mv (.tmp 10)))⟩
  .done))))))))))
 .ret))
def r18 : List XR := [.tmp 2]
theorem fn18 : FnX Tryz.prog 18 EFF 11 x18 r18 := ⟨_, Tryz.func18, by kernel_rfl, by kernel_rfl, by kernel_rfl, by kernel_rfl⟩
-- (*almshouse/store.Store).Free (1 parameters)
def x19 : XC := (.seq (.tree (.seq ⟨some 2, none, (.ofA (.mv (.cst (.v (.slice none 0 0)))))⟩
  .done))
 (.seq (.tree (.seq ⟨some 3, none, (.ofA (.mv (.cst (.v (.slice none 0 0)))))⟩
  .done))
 (.seq (.seq (.tree (.seq ⟨some 5, none, (.ofA (.mv (.tmp 0)))⟩
  (.seq ⟨some 6, none, (.call (.cst (.fn 23 [])) [(.tmp 5)])⟩
  (.seq ⟨some 7, none, (.ofA (.len (.tmp 6)))⟩
  (.seq ⟨some 8, none, (.ofA (.mv (.cst (.v (.int .i64 0)))))⟩
  .done)))))
 (.block 0 (.loop (.seq (.tree (.seq ⟨some 9, none, (.ofA (.bin .lss (.tmp 8) (.tmp 7)))⟩
  .done))
 (.seq (.cond (.tmp 9)
 .skip
 (.exit 0))
 (.seq (.block 1 (.seq (.tree (.seq ⟨some 10, none, (.ofA (.mv (.tmp 8)))⟩
  (.seq ⟨some 4, none, (.ofA (.mv (.tmp 10)))⟩
  .done)))
 (.seq (.tree (.seq ⟨some 11, none, (.ofA (.mv (.tmp 4)))⟩
  (.seq ⟨some 12, none, (.ofA (.mv (.tmp 0)))⟩
  (.seq ⟨some 13, none, (.ofA (.nilc (.tmp 12)))⟩
  (.seq ⟨some 14, none, (.ofA (.faddr 10 (.tmp 13)))⟩
  (.seq ⟨some 15, none, (.ofA (.load none (.tmp 14)))⟩
  (.seq ⟨some 16, none, (.ofA (.bin .neq (.tmp 11) (.tmp 15)))⟩
  (.seq ⟨some 17, none, (.ofA (.mv (.tmp 16)))⟩
  (.seq ⟨some 18, some (17, true), (.ofA (.mv (.tmp 0)))⟩
  (.seq ⟨some 19, some (17, true), (.ofA (.mv (.tmp 4)))⟩
  (.seq ⟨some 20, some (17, true), (.call (.cst (.fn 69 [])) [(.tmp 18), (.tmp 19)])⟩
  (.seq ⟨some 21, none, (.ofA (.pick (.tmp 17) (.tmp 20) (.cst (.v (.bool false)))))⟩
  .done))))))))))))
 (.cond (.tmp 21)
 (.tree (.seq ⟨some 22, none, (.ofA (.mv (.tmp 3)))⟩
  (.seq ⟨some 23, none, (.ofA (.mv (.tmp 4)))⟩
  (.seq ⟨some 24, none, (.buildSl 1 1 [(.v (.int .i64 0))] [(0, 1, (.tmp 23))])⟩
  (.seq ⟨some 25, none, (.app 1 8 (.tmp 22) (.tmp 24))⟩
  (.seq ⟨some 3, none, (.ofA (.mv (.tmp 25)))⟩
  .done))))))
 .skip))))
 (.tree (.seq ⟨some 26, none, (.ofA (.bin .add (.tmp 8) (.cst (.v (.int .i64 1)))))⟩
  (.seq ⟨some 8, none, (.ofA (.mv (.tmp 26)))⟩
  .done)))))))))
 (.seq (.tree (.seq ⟨some 27, none, (.ofA (.mv (.tmp 3)))⟩
  (.seq ⟨some 2, none, (.ofA (.mv (.tmp 27)))⟩
  .done)))
 .ret))))
def r19 : List XR := [.tmp 2]
theorem fn19 : FnX Tryz.prog 19 EFF 28 x19 r19 := ⟨_, Tryz.func19, by kernel_rfl, by kernel_rfl, by kernel_rfl, by kernel_rfl⟩
-- (*almshouse/store.Store).Bad (1 parameters)
def x20 : XC := (.seq (.tree (.seq ⟨some 2, none, (.ofA (.mv (.cst (.v (.int .i64 0)))))⟩
  .done))
 (.seq (.tree (.seq ⟨some 3, none, (.ofA (.mv (.cst (.v (.int .i64 0)))))⟩
  .done))
 (.seq (.seq (.tree (.seq ⟨some 5, none, (.ofA (.mv (.tmp 0)))⟩
  (.seq ⟨some 6, none, (.call (.cst (.fn 23 [])) [(.tmp 5)])⟩
  (.seq ⟨some 7, none, (.ofA (.len (.tmp 6)))⟩
  (.seq ⟨some 8, none, (.ofA (.mv (.cst (.v (.int .i64 0)))))⟩
  .done)))))
 (.block 0 (.loop (.seq (.tree (.seq ⟨some 9, none, (.ofA (.bin .lss (.tmp 8) (.tmp 7)))⟩
  .done))
 (.seq (.cond (.tmp 9)
 .skip
 (.exit 0))
 (.seq (.block 1 (.seq (.tree (.seq ⟨some 10, none, (.ofA (.mv (.tmp 8)))⟩
  (.seq ⟨some 4, none, (.ofA (.mv (.tmp 10)))⟩
  .done)))
 (.seq (.tree (.seq ⟨some 11, none, (.ofA (.mv (.tmp 0)))⟩
  (.seq ⟨some 12, none, (.ofA (.mv (.tmp 4)))⟩
  (.seq ⟨some 13, none, (.call (.cst (.fn 60 [])) [(.tmp 11), (.tmp 12)])⟩
  .done))))
 (.cond (.tmp 13)
 (.tree (.seq ⟨some 14, none, (.ofA (.mv (.tmp 3)))⟩
  (.seq ⟨some 15, none, (.ofA (.bin .add (.tmp 14) (.cst (.v (.int .i64 1)))))⟩
  (.seq ⟨some 3, none, (.ofA (.mv (.tmp 15)))⟩
  .done))))
 .skip))))
 (.tree (.seq ⟨some 16, none, (.ofA (.bin .add (.tmp 8) (.cst (.v (.int .i64 1)))))⟩
  (.seq ⟨some 8, none, (.ofA (.mv (.tmp 16)))⟩
  .done)))))))))
 (.seq (.tree (.seq ⟨some 17, none, (.ofA (.mv (.tmp 3)))⟩
  (.seq ⟨some 2, none, (.ofA (.mv (.tmp 17)))⟩
  .done)))
 .ret))))
def r20 : List XR := [.tmp 2]
theorem fn20 : FnX Tryz.prog 20 EFF 18 x20 r20 := ⟨_, Tryz.func20, by kernel_rfl, by kernel_rfl, by kernel_rfl, by kernel_rfl⟩
-- (*almshouse/store.Store).Waiting (1 parameters)
def x21 : XC := (.seq (.tree (.seq ⟨some 2, none, (.ofA (.mv (.cst (.v (.int .i64 0)))))⟩
  .done))
 (.seq (.seq (.tree (.seq ⟨some 3, none, (.ofA (.mv (.tmp 0)))⟩
  (.seq ⟨some 4, none, (.ofA (.eqn false 1 (.tmp 3) (.cst (.v (.pointer none)))))⟩
  .done)))
 (.cond (.tmp 4)
 (.seq (.tree (.seq ⟨some 2, none, (.ofA (.mv (.cst (.v (.int .i64 0)))))⟩
  .done))
 .ret)
 .skip))
 (.seq (.tree (.seq ⟨some 5, none, (.ofA (.mv (.tmp 0)))⟩
  (.seq ⟨some 6, none, (.ofA (.nilc (.tmp 5)))⟩
  (.seq ⟨some 7, none, (.ofA (.faddr 8 (.tmp 6)))⟩
  (.seq ⟨some 8, none, (.ofA (.load none (.tmp 7)))⟩
  (.seq ⟨some 9, none, (.call (.cst (.fn 58 [])) [(.tmp 8)])⟩
  (.seq ⟨some 2, none, (.ofA (.mv (.tmp 9)))⟩
  .done)))))))
 .ret)))
def r21 : List XR := [.tmp 2]
theorem fn21 : FnX Tryz.prog 21 EFF 10 x21 r21 := ⟨_, Tryz.func21, by kernel_rfl, by kernel_rfl, by kernel_rfl, by kernel_rfl⟩
-- (*almshouse/store.Store).Size (1 parameters)
def x22 : XC := (.seq (.tree (.seq ⟨some 2, none, (.ofA (.mv (.cst (.v (.int .i64 0)))))⟩
  .done))
 (.seq (.seq (.tree (.seq ⟨some 3, none, (.ofA (.mv (.tmp 0)))⟩
  (.seq ⟨some 4, none, (.ofA (.eqn false 1 (.tmp 3) (.cst (.v (.pointer none)))))⟩
  .done)))
 (.cond (.tmp 4)
 (.seq (.tree (.seq ⟨some 2, none, (.ofA (.mv (.cst (.v (.int .i64 0)))))⟩
  .done))
 .ret)
 .skip))
 (.seq (.tree (.seq ⟨some 5, none, (.ofA (.mv (.tmp 0)))⟩
  (.seq ⟨some 6, none, (.ofA (.nilc (.tmp 5)))⟩
  (.seq ⟨some 7, none, (.ofA (.faddr 2 (.tmp 6)))⟩
  (.seq ⟨some 8, none, (.ofA (.faddr 2 (.tmp 7)))⟩
  (.seq ⟨some 9, none, (.ofA (.load none (.tmp 8)))⟩
  (.seq ⟨some 2, none, (.ofA (.mv (.tmp 9)))⟩
  .done)))))))
 .ret)))
def r22 : List XR := [.tmp 2]
theorem fn22 : FnX Tryz.prog 22 EFF 10 x22 r22 := ⟨_, Tryz.func22, by kernel_rfl, by kernel_rfl, by kernel_rfl, by kernel_rfl⟩
-- (*almshouse/store.Store).Blocks (1 parameters)
def x23 : XC := (.seq (.tree (.seq ⟨some 2, none, (.ofA (.mv (.cst (.v (.slice none 0 0)))))⟩
  .done))
 (.seq (.seq (.tree (.seq ⟨some 3, none, (.ofA (.mv (.tmp 0)))⟩
  (.seq ⟨some 4, none, (.ofA (.eqn false 1 (.tmp 3) (.cst (.v (.pointer none)))))⟩
  .done)))
 (.cond (.tmp 4)
 (.seq (.tree (.seq ⟨some 2, none, (.ofA (.mv (.cst (.v (.slice none 0 0)))))⟩
  .done))
 .ret)
 .skip))
 (.seq (.tree (.seq ⟨some 5, none, (.ofA (.mv (.tmp 0)))⟩
  (.seq ⟨some 6, none, (.ofA (.nilc (.tmp 5)))⟩
  (.seq ⟨some 7, none, (.ofA (.faddr 2 (.tmp 6)))⟩
  (.seq ⟨some 8, none, (.ofA (.faddr 4 (.tmp 7)))⟩
  (.seq ⟨some 9, none, (.ofA (.load none (.tmp 8)))⟩
  (.seq ⟨some 10, none, (.call (.cst (.fn 55 [])) [(.tmp 9)])⟩
  (.seq ⟨some 2, none, (.ofA (.mv (.tmp 10)))⟩
  .done))))))))
 .ret)))
def r23 : List XR := [.tmp 2]
theorem fn23 : FnX Tryz.prog 23 EFF 11 x23 r23 := ⟨_, Tryz.func23, by kernel_rfl, by kernel_rfl, by kernel_rfl, by kernel_rfl⟩
-- almshouse/almshouselaw18.Open (2 parameters)
def x46 : XC := (.seq (.tree (.seq ⟨some 2, none, (.box (.tmp 0))⟩
  (.seq ⟨some 4, none, (.ofA (.mv (.cst (.v (.pointer none)))))⟩
  (.seq ⟨some 5, none, (.ofA (.mv (.cst (.v (.pointer none)))))⟩
  (.seq ⟨some 6, none, (.ofA (.mv (.cst (.v (.pointer none)))))⟩
  (.seq ⟨some 7, none, (.ofA (.mv (.cst (.v (.pointer none)))))⟩
  (.seq ⟨some 8, none, (.alloc [(.v (.bool false)), (.v (.int .i64 0)), (.v (.int .i64 0)), (.v (.int .i64 0)), (.v (.slice none 0 0))])⟩
  .done)))))))
 (.seq (.tree (.seq ⟨some 22, none, (.ofA (.faddr 2 (.tmp 2)))⟩
  (.seq ⟨some 23, none, (.ofA (.load none (.tmp 22)))⟩
  (.seq ⟨some 24, none, (.ofA (.conv .u64 (.tmp 23)))⟩
  (.seq ⟨some 25, none, (.ofA (.bin .rem (.tmp 24) (.cst (.v (.int .u64 5)))))⟩
  (.seq ⟨some 26, none, (.ofA (.conv .i64 (.tmp 25)))⟩
  (.seq ⟨some 27, none, (.ofA (.bin .add (.cst (.v (.int .i64 2))) (.tmp 26)))⟩
  (.seq ⟨some 9, none, (.ofA (.mv (.tmp 27)))⟩
  .done))))))))
 (.seq (.tree (.take ⟨some 28, none, (.ofA (.faddr 0 (.tmp 2)))⟩
  (.take ⟨some 29, none, (.ofA (.load none (.tmp 28)))⟩
  (.take ⟨some 30, none, (.ofA (.conv .u64 (.tmp 29)))⟩
  (.take ⟨some 31, none, (.ofA (.bin .rem (.tmp 30) (.cst (.v (.int .u64 12)))))⟩
  (.take ⟨some 32, none, (.ofA (.conv .i64 (.tmp 31)))⟩
  (.take ⟨some 33, none, (.ofA (.bin .add (.cst (.v (.int .i64 1))) (.tmp 32)))⟩
  (.take ⟨some 34, none, (.ofA (.faddr 1 (.tmp 2)))⟩
  (.take ⟨some 35, none, (.ofA (.load none (.tmp 34)))⟩
  (.take ⟨some 36, none, (.ofA (.conv .u64 (.tmp 35)))⟩
  (.take ⟨some 37, none, (.ofA (.bin .rem (.tmp 36) (.cst (.v (.int .u64 4)))))⟩
  (.take ⟨some 38, none, (.ofA (.conv .i64 (.tmp 37)))⟩
  (.take ⟨some 10, none, (.ofA (.mv (.tmp 33)))⟩
  (.take ⟨some 11, none, (.ofA (.mv (.tmp 38)))⟩
  .done))))))))))))))
 (.seq (.tree (.seq ⟨some 39, none, (.ofA (.mv (.tmp 10)))⟩
  (.seq ⟨some 40, none, (.ofA (.mv (.tmp 11)))⟩
  (.seq ⟨some 41, none, (.build [(.v (.bool false)), (.v (.int .i64 0)), (.v (.int .i64 0)), (.v (.int .i64 0)), (.v (.slice none 0 0))] [(0, 1, (.cst (.v (.bool true)))), (1, 1, (.cst (.v (.int .i64 1)))), (2, 1, (.tmp 39)), (3, 1, (.tmp 40))])⟩
  (.seq ⟨some 12, none, (.alloc [(.v (.bool false)), (.v (.int .i64 0)), (.v (.int .i64 0)), (.v (.int .i64 0)), (.v (.slice none 0 0))])⟩
  (.seq ⟨none, none, (.store 5 (.tmp 12) (.tmp 41))⟩
  .done))))))
 (.seq (.seq (.tree (.take ⟨some 42, none, (.ofA (.mv (.tmp 10)))⟩
  (.take ⟨some 43, none, (.ofA (.mv (.tmp 11)))⟩
  (.take ⟨some 44, none, (.ofA (.mv (.tmp 9)))⟩
  (.take ⟨some 46, none, (.ofA (.faddr 3 (.tmp 2)))⟩
  (.take ⟨some 47, none, (.ofA (.load none (.tmp 46)))⟩
  (.take ⟨some 48, none, (.ofA (.conv .u64 (.tmp 47)))⟩
  (.take ⟨some 49, none, (.ofA (.bin .rem (.tmp 48) (.cst (.v (.int .u64 3)))))⟩
  (.take ⟨some 50, none, (.ofA (.conv .i64 (.tmp 49)))⟩
  (.take ⟨some 52, none, (.ofA (.mv (.cst (.v (.int .i64 0)))))⟩
  (.act true [(⟨some 45, none, (.call (.cst (.fn 81 [])) [(.tmp 42), (.tmp 43), (.tmp 44)])⟩,
 (.take ⟨some 51, none, (.ofA (.bin .add (.tmp 45) (.tmp 50)))⟩
  .done))])))))))))))
 (.block 0 (.loop (.seq (.tree (.seq ⟨some 53, none, (.ofA (.bin .lss (.tmp 52) (.tmp 51)))⟩
  .done))
 (.seq (.cond (.tmp 53)
 .skip
 (.exit 0))
 (.seq (.block 1 (.seq (.tree (.seq ⟨some 54, none, (.ofA (.mv (.tmp 52)))⟩
  (.seq ⟨some 13, none, (.ofA (.mv (.tmp 54)))⟩
  .done)))
 (.tree (.seq ⟨some 55, none, (.ofA (.faddr 4 (.tmp 12)))⟩
  (.seq ⟨some 56, none, (.ofA (.load none (.tmp 55)))⟩
  (.seq ⟨some 57, none, (.ofA (.mv (.tmp 13)))⟩
  (.seq ⟨some 58, none, (.ofA (.bin .add (.cst (.v (.int .i64 2))) (.tmp 57)))⟩
  (.seq ⟨some 59, none, (.buildSl 1 1 [(.v (.int .i64 0))] [(0, 1, (.tmp 58))])⟩
  (.seq ⟨some 60, none, (.app 1 8 (.tmp 56) (.tmp 59))⟩
  (.seq ⟨some 61, none, (.ofA (.faddr 4 (.tmp 12)))⟩
  (.seq ⟨none, none, (.store 1 (.tmp 61) (.tmp 60))⟩
  .done)))))))))))
 (.tree (.seq ⟨some 62, none, (.ofA (.bin .add (.tmp 52) (.cst (.v (.int .i64 1)))))⟩
  (.seq ⟨some 52, none, (.ofA (.mv (.tmp 62)))⟩
  .done)))))))))
 (.seq (.tree (.seq ⟨some 63, none, (.ofA (.mv (.tmp 1)))⟩
  (.seq ⟨some 64, none, (.call (.cst (.fn 114 [])) [(.tmp 63)])⟩
  (.seq ⟨some 14, none, (.ofA (.mv (.tmp 64)))⟩
  .done))))
 (.seq (.tree (.seq ⟨some 65, none, (.ofA (.faddr 4 (.tmp 2)))⟩
  (.seq ⟨some 66, none, (.ofA (.load none (.tmp 65)))⟩
  (.seq ⟨some 67, none, (.build [(.v (.slice none 0 0)), (.v (.slice none 0 0)), (.v (.slice none 0 0)), (.v (.slice none 0 0))] [(1, 1, (.tmp 66))])⟩
  (.seq ⟨some 15, none, (.alloc [(.v (.slice none 0 0)), (.v (.slice none 0 0)), (.v (.slice none 0 0)), (.v (.slice none 0 0))])⟩
  (.seq ⟨none, none, (.store 4 (.tmp 15) (.tmp 67))⟩
  .done))))))
 (.seq (.seq (.tree (.seq ⟨some 68, none, (.ofA (.load (some 4) (.tmp 15)))⟩
  (.seq ⟨some 69, none, (.call (.cst (.fn 115 [])) [(.tmp 68)])⟩
  (.seq ⟨some 70, none, (.ofA (.bin .neq (.tmp 69) (.cst (.v (.int .i64 0)))))⟩
  (.seq ⟨some 71, none, (.ofA (.mv (.tmp 70)))⟩
  (.seq ⟨some 72, some (71, false), (.ofA (.faddr 4 (.tmp 12)))⟩
  (.seq ⟨some 73, some (71, false), (.ofA (.load none (.tmp 72)))⟩
  (.seq ⟨some 74, some (71, false), (.ofA (.len (.tmp 73)))⟩
  (.seq ⟨some 75, some (71, false), (.ofA (.bin .eql (.tmp 74) (.cst (.v (.int .i64 0)))))⟩
  (.seq ⟨some 76, none, (.ofA (.pick (.tmp 71) (.cst (.v (.bool true))) (.tmp 75)))⟩
  .done))))))))))
 (.cond (.tmp 76)
 (.seq (.tree (.take ⟨some 77, none, (.ofA (.load (some 5) (.tmp 12)))⟩
  (.take ⟨some 4, none, (.ofA (.mv (.cst (.v (.pointer none)))))⟩
  (.take ⟨some 5, none, (.ofA (.mv (.cst (.v (.pointer none)))))⟩
  (.take ⟨some 6, none, (.ofA (.mv (.cst (.v (.pointer none)))))⟩
  (.take ⟨some 7, none, (.ofA (.mv (.cst (.v (.pointer none)))))⟩
  (.alt [false] [(⟨none, none, (.store 5 (.tmp 8) (.tmp 77))⟩,
 .done)])))))))
 .ret)
 .skip))
 (.seq (.tree (.seq ⟨some 79, none, (.ofA (.load (some 4) (.tmp 15)))⟩
  (.seq ⟨some 80, none, (.call (.cst (.fn 116 [])) [(.tmp 79)])⟩
  (.seq ⟨some 78, none, (.ofA (.mv (.tmp 80)))⟩
  (.seq ⟨some 81, none, (.ofA (.extract 0 (.tmp 78)))⟩
  (.seq ⟨some 82, none, (.ofA (.extract 1 (.tmp 78)))⟩
  (.seq ⟨some 16, none, (.ofA (.mv (.tmp 81)))⟩
  (.seq ⟨some 17, none, (.ofA (.mv (.tmp 82)))⟩
  .done))))))))
 (.seq (.tree (.seq ⟨some 84, none, (.ofA (.faddr 4 (.tmp 12)))⟩
  (.seq ⟨some 85, none, (.ofA (.load none (.tmp 84)))⟩
  (.seq ⟨some 86, none, (.ofA (.len (.tmp 85)))⟩
  (.seq ⟨some 87, none, (.ofA (.bin .add (.cst (.v (.int .i64 2))) (.tmp 86)))⟩
  (.seq ⟨some 88, none, (.ofA (.mv (.tmp 9)))⟩
  (.seq ⟨some 89, none, (.build [(.v (.int .i64 0)), (.v (.int .i64 0)), (.v (.int .i64 0)), (.v (.int .i64 0))] [(0, 1, (.cst (.v (.int .i64 1)))), (1, 1, (.cst (.v (.int .i64 1)))), (2, 1, (.tmp 87)), (3, 1, (.tmp 88))])⟩
  (.seq ⟨some 90, none, (.ofA (.mv (.tmp 14)))⟩
  (.seq ⟨some 91, none, (.ofA (.mv (.tmp 16)))⟩
  (.seq ⟨some 92, none, (.call (.cst (.fn 117 [])) [(.tmp 89), (.tmp 90), (.tmp 91), (.cst (.v (.slice none 0 0)))])⟩
  (.seq ⟨some 83, none, (.ofA (.mv (.tmp 92)))⟩
  (.seq ⟨some 93, none, (.ofA (.extract 0 (.tmp 83)))⟩
  (.seq ⟨some 94, none, (.ofA (.extract 1 (.tmp 83)))⟩
  (.seq ⟨some 18, none, (.ofA (.mv (.tmp 93)))⟩
  (.seq ⟨some 19, none, (.ofA (.mv (.tmp 94)))⟩
  .done)))))))))))))))
 (.seq (.tree (.seq ⟨some 96, none, (.ofA (.mv (.tmp 18)))⟩
  (.seq ⟨some 97, none, (.ofA (.load (some 5) (.tmp 12)))⟩
  (.seq ⟨some 98, none, (.call (.cst (.fn 11 [])) [(.tmp 96), (.cst (.v (.int .i64 1))), (.tmp 97)])⟩
  (.seq ⟨some 95, none, (.ofA (.mv (.tmp 98)))⟩
  (.seq ⟨some 99, none, (.ofA (.extract 0 (.tmp 95)))⟩
  (.seq ⟨some 100, none, (.ofA (.extract 1 (.tmp 95)))⟩
  (.seq ⟨some 20, none, (.ofA (.mv (.tmp 99)))⟩
  (.seq ⟨some 21, none, (.ofA (.mv (.tmp 100)))⟩
  .done)))))))))
 (.seq (.tree (.take ⟨some 101, none, (.ofA (.mv (.tmp 20)))⟩
  (.take ⟨some 102, none, (.ofA (.mv (.tmp 18)))⟩
  (.take ⟨some 103, none, (.ofA (.mv (.tmp 14)))⟩
  (.take ⟨some 104, none, (.ofA (.mv (.tmp 16)))⟩
  (.take ⟨some 105, none, (.ofA (.load (some 5) (.tmp 12)))⟩
  (.take ⟨some 4, none, (.ofA (.mv (.tmp 101)))⟩
  (.take ⟨some 5, none, (.ofA (.mv (.tmp 102)))⟩
  (.take ⟨some 6, none, (.ofA (.mv (.tmp 103)))⟩
  (.take ⟨some 7, none, (.ofA (.mv (.tmp 104)))⟩
  (.alt [false] [(⟨none, none, (.store 5 (.tmp 8) (.tmp 105))⟩,
 .done)])))))))))))
 .ret))))))))))))
def r46 : List XR := [.tmp 4, .tmp 5, .tmp 6, .tmp 7, .cell 8 (some 5)]
theorem fn46 : FnX Tryz.prog 46 EFF 106 x46 r46 := ⟨_, Tryz.func46, by kernel_rfl, by kernel_rfl, by kernel_rfl, by kernel_rfl⟩
-- (*almshouse/store.Store).place (2 parameters)
def x47 : XC := (.seq (.tree (.seq ⟨some 4, none, (.ofA (.mv (.cst (.v (.int .i64 0)))))⟩
  .done))
 (.seq (.block 0 (.seq (.tree (.seq ⟨some 6, none, (.ofA (.mv (.tmp 0)))⟩
  (.seq ⟨some 7, none, (.ofA (.eqn false 1 (.tmp 6) (.cst (.v (.pointer none)))))⟩
  (.seq ⟨some 5, none, (.ofA (.mv (.tmp 7)))⟩
  .done))))
 (.cond (.tmp 5)
 (.seq (.tree (.seq ⟨some 4, none, (.ofA (.mv (.cst (.v (.int .i64 1)))))⟩
  .done))
 .ret)
 (.seq (.tree (.seq ⟨some 9, none, (.ofA (.mv (.tmp 1)))⟩
  (.seq ⟨some 10, none, (.ofA (.bin .lss (.tmp 9) (.cst (.v (.int .i64 0)))))⟩
  (.seq ⟨some 11, none, (.ofA (.mv (.tmp 10)))⟩
  (.seq ⟨some 12, some (11, false), (.ofA (.mv (.tmp 1)))⟩
  (.seq ⟨some 13, some (11, false), (.ofA (.mv (.tmp 0)))⟩
  (.seq ⟨some 14, some (11, false), (.ofA (.nilc (.tmp 13)))⟩
  (.seq ⟨some 15, some (11, false), (.ofA (.faddr 2 (.tmp 14)))⟩
  (.seq ⟨some 16, some (11, false), (.ofA (.faddr 2 (.tmp 15)))⟩
  (.seq ⟨some 17, some (11, false), (.ofA (.load none (.tmp 16)))⟩
  (.seq ⟨some 18, some (11, false), (.ofA (.bin .geq (.tmp 12) (.tmp 17)))⟩
  (.seq ⟨some 19, none, (.ofA (.pick (.tmp 11) (.cst (.v (.bool true))) (.tmp 18)))⟩
  (.seq ⟨some 8, none, (.ofA (.mv (.tmp 19)))⟩
  .done)))))))))))))
 (.cond (.tmp 8)
 (.seq (.tree (.seq ⟨some 4, none, (.ofA (.mv (.cst (.v (.int .i64 5)))))⟩
  .done))
 .ret)
 .skip)))))
 (.seq (.tree (.seq ⟨some 4, none, (.ofA (.mv (.cst (.v (.int .i64 0)))))⟩
  .done))
 .ret)))
def r47 : List XR := [.tmp 4]
theorem fn47 : FnX Tryz.prog 47 EFF 20 x47 r47 := ⟨_, Tryz.func47, by kernel_rfl, by kernel_rfl, by kernel_rfl, by kernel_rfl⟩
-- (*almshouse/buffer.Buffer).Last (2 parameters)
def x48 : XC := (.seq (.tree (.seq ⟨some 4, none, (.alloc [(.v (.int .i64 0)), (.v (.int .i64 0)), (.v (.string ⟨#[]⟩))])⟩
  (.seq ⟨some 5, none, (.ofA (.mv (.cst (.v (.bool false)))))⟩
  .done)))
 (.seq (.seq (.tree (.seq ⟨some 8, none, (.ofA (.mv (.tmp 0)))⟩
  (.seq ⟨some 9, none, (.call (.cst (.fn 58 [])) [(.tmp 8)])⟩
  (.seq ⟨some 10, none, (.ofA (.bin .sub (.tmp 9) (.cst (.v (.int .i64 1)))))⟩
  (.seq ⟨some 6, none, (.ofA (.mv (.tmp 10)))⟩
  .done)))))
 (.block 0 (.loop (.seq (.seq (.tree (.seq ⟨some 11, none, (.ofA (.mv (.tmp 6)))⟩
  (.seq ⟨some 12, none, (.ofA (.bin .geq (.tmp 11) (.cst (.v (.int .i64 0)))))⟩
  .done)))
 (.cond (.tmp 12)
 .skip
 (.exit 0)))
 (.seq (.block 1 (.seq (.tree (.seq ⟨some 15, none, (.ofA (.mv (.tmp 0)))⟩
  (.seq ⟨some 16, none, (.ofA (.mv (.tmp 6)))⟩
  (.seq ⟨some 17, none, (.call (.cst (.fn 118 [])) [(.tmp 15), (.tmp 16)])⟩
  (.seq ⟨some 18, none, (.ofA (.nilc (.tmp 17)))⟩
  (.seq ⟨some 19, none, (.ofA (.load (some 3) (.tmp 18)))⟩
  (.seq ⟨some 7, none, (.alloc [(.v (.int .i64 0)), (.v (.int .i64 0)), (.v (.string ⟨#[]⟩))])⟩
  (.seq ⟨none, none, (.store 3 (.tmp 7) (.tmp 19))⟩
  .done))))))))
 (.seq (.tree (.seq ⟨some 20, none, (.ofA (.faddr 0 (.tmp 7)))⟩
  (.seq ⟨some 21, none, (.ofA (.load none (.tmp 20)))⟩
  (.seq ⟨some 22, none, (.ofA (.mv (.tmp 1)))⟩
  (.seq ⟨some 23, none, (.ofA (.bin .eql (.tmp 21) (.tmp 22)))⟩
  .done)))))
 (.cond (.tmp 23)
 (.seq (.tree (.seq ⟨some 24, none, (.ofA (.load (some 3) (.tmp 7)))⟩
  (.seq ⟨none, none, (.store 3 (.tmp 4) (.tmp 24))⟩
  (.seq ⟨some 5, none, (.ofA (.mv (.cst (.v (.bool true)))))⟩
  .done))))
 .ret)
 .skip))))
 (.tree (.seq ⟨some 13, none, (.ofA (.mv (.tmp 6)))⟩
  (.seq ⟨some 14, none, (.ofA (.bin .sub (.tmp 13) (.cst (.v (.int .i64 1)))))⟩
  (.seq ⟨some 6, none, (.ofA (.mv (.tmp 14)))⟩
  .done)))))))))
 (.seq (.tree (.seq ⟨some 25, none, (.build [(.v (.int .i64 0)), (.v (.int .i64 0)), (.v (.string ⟨#[]⟩))] [])⟩
  (.seq ⟨none, none, (.store 3 (.tmp 4) (.tmp 25))⟩
  (.seq ⟨some 5, none, (.ofA (.mv (.cst (.v (.bool false)))))⟩
  .done))))
 .ret)))
def r48 : List XR := [.cell 4 (some 3), .tmp 5]
theorem fn48 : FnX Tryz.prog 48 EFF 26 x48 r48 := ⟨_, Tryz.func48, by kernel_rfl, by kernel_rfl, by kernel_rfl, by kernel_rfl⟩
-- (*almshouse/table.Table).At (2 parameters)
def x49 : XC := (.seq (.tree (.seq ⟨some 4, none, (.ofA (.mv (.cst (.v (.int .i64 0)))))⟩
  (.seq ⟨some 5, none, (.ofA (.mv (.cst (.v (.int .i64 0)))))⟩
  (.seq ⟨some 6, none, (.ofA (.mv (.cst (.v (.bool false)))))⟩
  .done))))
 (.seq (.seq (.tree (.seq ⟨some 8, none, (.ofA (.mv (.tmp 0)))⟩
  (.seq ⟨some 9, none, (.ofA (.eqn false 1 (.tmp 8) (.cst (.v (.pointer none)))))⟩
  (.seq ⟨some 10, none, (.ofA (.mv (.tmp 9)))⟩
  (.seq ⟨some 11, some (10, false), (.ofA (.mv (.tmp 1)))⟩
  (.seq ⟨some 12, some (10, false), (.ofA (.bin .lss (.tmp 11) (.cst (.v (.int .i64 0)))))⟩
  (.seq ⟨some 13, none, (.ofA (.pick (.tmp 10) (.cst (.v (.bool true))) (.tmp 12)))⟩
  (.seq ⟨some 14, none, (.ofA (.mv (.tmp 13)))⟩
  (.seq ⟨some 15, some (14, false), (.ofA (.mv (.tmp 1)))⟩
  (.seq ⟨some 16, some (14, false), (.ofA (.bin .geq (.tmp 15) (.cst (.v (.int .i64 64)))))⟩
  (.seq ⟨some 17, none, (.ofA (.pick (.tmp 14) (.cst (.v (.bool true))) (.tmp 16)))⟩
  .done)))))))))))
 (.cond (.tmp 17)
 (.seq (.tree (.seq ⟨some 4, none, (.ofA (.mv (.cst (.v (.int .i64 0)))))⟩
  (.seq ⟨some 5, none, (.ofA (.mv (.cst (.v (.int .i64 0)))))⟩
  (.seq ⟨some 6, none, (.ofA (.mv (.cst (.v (.bool false)))))⟩
  .done))))
 .ret)
 .skip))
 (.seq (.tree (.seq ⟨some 18, none, (.ofA (.mv (.tmp 0)))⟩
  (.seq ⟨some 19, none, (.ofA (.mv (.tmp 1)))⟩
  (.seq ⟨some 20, none, (.ofA (.nilc (.tmp 18)))⟩
  (.seq ⟨some 21, none, (.ofA (.faddr 1 (.tmp 20)))⟩
  (.seq ⟨some 22, none, (.ofA (.iarr 64 3 (.tmp 21) (.tmp 19)))⟩
  (.seq ⟨some 23, none, (.ofA (.load (some 3) (.tmp 22)))⟩
  (.seq ⟨some 7, none, (.alloc [(.v (.int .i64 0)), (.v (.int .i64 0)), (.v (.bool false))])⟩
  (.seq ⟨none, none, (.store 3 (.tmp 7) (.tmp 23))⟩
  .done)))))))))
 (.seq (.tree (.take ⟨some 24, none, (.ofA (.faddr 0 (.tmp 7)))⟩
  (.take ⟨some 25, none, (.ofA (.load none (.tmp 24)))⟩
  (.take ⟨some 26, none, (.ofA (.faddr 1 (.tmp 7)))⟩
  (.take ⟨some 27, none, (.ofA (.load none (.tmp 26)))⟩
  (.take ⟨some 28, none, (.ofA (.faddr 2 (.tmp 7)))⟩
  (.take ⟨some 29, none, (.ofA (.load none (.tmp 28)))⟩
  (.take ⟨some 4, none, (.ofA (.mv (.tmp 25)))⟩
  (.take ⟨some 5, none, (.ofA (.mv (.tmp 27)))⟩
  (.take ⟨some 6, none, (.ofA (.mv (.tmp 29)))⟩
  .done))))))))))
 .ret))))
def r49 : List XR := [.tmp 4, .tmp 5, .tmp 6]
theorem fn49 : FnX Tryz.prog 49 EFF 30 x49 r49 := ⟨_, Tryz.func49, by kernel_rfl, by kernel_rfl, by kernel_rfl, by kernel_rfl⟩
-- almshouse/scan.One (4 parameters)
def x50 : XC := (.seq (.tree (.seq ⟨some 8, none, (.alloc [(.v (.int .i64 0)), (.v (.int .i64 0)), (.v (.bool false)), (.v (.int .i64 0)), (.v (.int .i64 0)), (.v (.int .i64 0)), (.v (.int .i64 0)), (.v (.int .i64 0)), (.v (.bool false)), (.v (.string ⟨#[]⟩))])⟩
  (.seq ⟨some 9, none, (.ofA (.mv (.cst (.v (.int .i64 0)))))⟩
  .done)))
 (.seq (.block 0 (.seq (.tree (.seq ⟨some 17, none, (.ofA (.mv (.tmp 0)))⟩
  (.seq ⟨some 18, none, (.ofA (.eqn false 1 (.tmp 17) (.cst (.v (.pointer none)))))⟩
  (.seq ⟨some 16, none, (.ofA (.mv (.tmp 18)))⟩
  .done))))
 (.cond (.tmp 16)
 (.seq (.tree (.seq ⟨some 19, none, (.build [(.v (.int .i64 0)), (.v (.int .i64 0)), (.v (.bool false)), (.v (.int .i64 0)), (.v (.int .i64 0)), (.v (.int .i64 0)), (.v (.int .i64 0)), (.v (.int .i64 0)), (.v (.bool false)), (.v (.string ⟨#[]⟩))] [])⟩
  (.seq ⟨none, none, (.store 10 (.tmp 8) (.tmp 19))⟩
  (.seq ⟨some 9, none, (.ofA (.mv (.cst (.v (.int .i64 1)))))⟩
  .done))))
 .ret)
 (.seq (.tree (.seq ⟨some 21, none, (.ofA (.mv (.tmp 2)))⟩
  (.seq ⟨some 22, none, (.ofA (.bin .lss (.tmp 21) (.cst (.v (.int .i64 0)))))⟩
  (.seq ⟨some 23, none, (.ofA (.mv (.tmp 22)))⟩
  (.seq ⟨some 24, some (23, false), (.ofA (.mv (.tmp 2)))⟩
  (.seq ⟨some 25, some (23, false), (.ofA (.mv (.tmp 1)))⟩
  (.seq ⟨some 26, some (23, false), (.ofA (.len (.tmp 25)))⟩
  (.seq ⟨some 27, some (23, false), (.ofA (.bin .geq (.tmp 24) (.tmp 26)))⟩
  (.seq ⟨some 28, none, (.ofA (.pick (.tmp 23) (.cst (.v (.bool true))) (.tmp 27)))⟩
  (.seq ⟨some 20, none, (.ofA (.mv (.tmp 28)))⟩
  .done))))))))))
 (.cond (.tmp 20)
 (.seq (.tree (.seq ⟨some 29, none, (.build [(.v (.int .i64 0)), (.v (.int .i64 0)), (.v (.bool false)), (.v (.int .i64 0)), (.v (.int .i64 0)), (.v (.int .i64 0)), (.v (.int .i64 0)), (.v (.int .i64 0)), (.v (.bool false)), (.v (.string ⟨#[]⟩))] [])⟩
  (.seq ⟨none, none, (.store 10 (.tmp 8) (.tmp 29))⟩
  (.seq ⟨some 9, none, (.ofA (.mv (.cst (.v (.int .i64 5)))))⟩
  .done))))
 .ret)
 .skip)))))
 (.seq (.tree (.seq ⟨some 31, none, (.ofA (.mv (.tmp 0)))⟩
  (.seq ⟨some 32, none, (.ofA (.mv (.tmp 1)))⟩
  (.seq ⟨some 33, none, (.ofA (.mv (.tmp 2)))⟩
  (.seq ⟨some 34, none, (.ofA (.isl 1 (.tmp 32) (.tmp 33)))⟩
  (.seq ⟨some 35, none, (.ofA (.load none (.tmp 34)))⟩
  (.seq ⟨some 36, none, (.ofA (.mv (.tmp 3)))⟩
  (.seq ⟨some 37, none, (.call (.cst (.fn 119 [])) [(.tmp 31), (.tmp 35), (.tmp 36)])⟩
  (.seq ⟨some 30, none, (.ofA (.mv (.tmp 37)))⟩
  (.seq ⟨some 38, none, (.ofA (.extract 0 (.tmp 30)))⟩
  (.seq ⟨some 39, none, (.ofA (.extract 1 (.tmp 30)))⟩
  (.seq ⟨some 40, none, (.ofA (.extract 2 (.tmp 30)))⟩
  (.seq ⟨some 10, none, (.ofA (.mv (.tmp 38)))⟩
  (.seq ⟨some 11, none, (.ofA (.mv (.tmp 39)))⟩
  (.seq ⟨some 12, none, (.ofA (.mv (.tmp 40)))⟩
  .done)))))))))))))))
 (.seq (.seq (.tree (.seq ⟨some 41, none, (.ofA (.mv (.tmp 12)))⟩
  (.seq ⟨some 42, none, (.ofA (.bin .neq (.tmp 41) (.cst (.v (.int .i64 0)))))⟩
  (.seq ⟨some 43, none, (.ofA (.mv (.tmp 42)))⟩
  (.seq ⟨some 44, some (43, true), (.ofA (.mv (.tmp 12)))⟩
  (.seq ⟨some 45, some (43, true), (.ofA (.bin .neq (.tmp 44) (.cst (.v (.int .i64 11)))))⟩
  (.seq ⟨some 46, none, (.ofA (.pick (.tmp 43) (.tmp 45) (.cst (.v (.bool false)))))⟩
  .done)))))))
 (.cond (.tmp 46)
 (.seq (.tree (.seq ⟨some 47, none, (.build [(.v (.int .i64 0)), (.v (.int .i64 0)), (.v (.bool false)), (.v (.int .i64 0)), (.v (.int .i64 0)), (.v (.int .i64 0)), (.v (.int .i64 0)), (.v (.int .i64 0)), (.v (.bool false)), (.v (.string ⟨#[]⟩))] [])⟩
  (.seq ⟨some 48, none, (.ofA (.mv (.tmp 12)))⟩
  (.seq ⟨none, none, (.store 10 (.tmp 8) (.tmp 47))⟩
  (.seq ⟨some 9, none, (.ofA (.mv (.tmp 48)))⟩
  .done)))))
 .ret)
 .skip))
 (.seq (.tree (.seq ⟨some 49, none, (.ofA (.mv (.tmp 2)))⟩
  (.seq ⟨some 50, none, (.ofA (.mv (.tmp 3)))⟩
  (.seq ⟨some 51, none, (.build [(.v (.int .i64 0)), (.v (.int .i64 0)), (.v (.bool false)), (.v (.int .i64 0)), (.v (.int .i64 0)), (.v (.int .i64 0)), (.v (.int .i64 0)), (.v (.int .i64 0)), (.v (.bool false)), (.v (.string ⟨#[]⟩))] [(0, 1, (.tmp 49)), (1, 1, (.tmp 50))])⟩
  (.seq ⟨some 13, none, (.alloc [(.v (.int .i64 0)), (.v (.int .i64 0)), (.v (.bool false)), (.v (.int .i64 0)), (.v (.int .i64 0)), (.v (.int .i64 0)), (.v (.int .i64 0)), (.v (.int .i64 0)), (.v (.bool false)), (.v (.string ⟨#[]⟩))])⟩
  (.seq ⟨none, none, (.store 10 (.tmp 13) (.tmp 51))⟩
  .done))))))
 (.seq (.tree (.seq ⟨some 53, none, (.ofA (.mv (.tmp 10)))⟩
  (.seq ⟨some 54, none, (.call (.cst (.fn 120 [])) [(.tmp 53)])⟩
  (.seq ⟨some 52, none, (.ofA (.mv (.tmp 54)))⟩
  (.seq ⟨some 55, none, (.ofA (.extract 0 (.tmp 52)))⟩
  (.seq ⟨some 56, none, (.ofA (.extract 1 (.tmp 52)))⟩
  (.seq ⟨some 14, none, (.alloc [(.v (.int .i64 0)), (.v (.int .i64 0)), (.v (.int .i64 0)), (.v (.int .i64 0)), (.v (.int .i64 0)), (.v (.bool false))])⟩
  (.seq ⟨none, none, (.store 6 (.tmp 14) (.tmp 55))⟩
  (.seq ⟨some 15, none, (.ofA (.mv (.tmp 56)))⟩
  .done)))))))))
 (.seq (.seq (.tree (.seq ⟨some 57, none, (.ofA (.mv (.tmp 12)))⟩
  (.seq ⟨some 58, none, (.ofA (.bin .eql (.tmp 57) (.cst (.v (.int .i64 11)))))⟩
  (.seq ⟨some 59, none, (.ofA (.mv (.tmp 58)))⟩
  (.seq ⟨some 60, some (59, false), (.ofA (.mv (.tmp 15)))⟩
  (.seq ⟨some 61, some (59, false), (.ofA (.bin .neq (.tmp 60) (.cst (.v (.int .i64 0)))))⟩
  (.seq ⟨some 62, none, (.ofA (.pick (.tmp 59) (.cst (.v (.bool true))) (.tmp 61)))⟩
  .done)))))))
 (.cond (.tmp 62)
 (.seq (.tree (.seq ⟨some 63, none, (.ofA (.faddr 2 (.tmp 13)))⟩
  (.seq ⟨none, none, (.store 1 (.tmp 63) (.cst (.v (.bool true))))⟩
  .done)))
 (.seq (.tree (.seq ⟨some 64, none, (.ofA (.load (some 10) (.tmp 13)))⟩
  (.seq ⟨none, none, (.store 10 (.tmp 8) (.tmp 64))⟩
  (.seq ⟨some 9, none, (.ofA (.mv (.cst (.v (.int .i64 0)))))⟩
  .done))))
 .ret))
 .skip))
 (.seq (.tree (.seq ⟨some 65, none, (.ofA (.load (some 6) (.tmp 14)))⟩
  (.seq ⟨some 66, none, (.ofA (.mv (.tmp 11)))⟩
  (.seq ⟨some 67, none, (.ofA (.faddr 3 (.tmp 13)))⟩
  (.seq ⟨none, none, (.store 6 (.tmp 67) (.tmp 65))⟩
  (.seq ⟨some 68, none, (.ofA (.faddr 9 (.tmp 13)))⟩
  (.seq ⟨none, none, (.store 1 (.tmp 68) (.tmp 66))⟩
  .done)))))))
 (.seq (.tree (.seq ⟨some 69, none, (.ofA (.load (some 10) (.tmp 13)))⟩
  (.seq ⟨none, none, (.store 10 (.tmp 8) (.tmp 69))⟩
  (.seq ⟨some 9, none, (.ofA (.mv (.cst (.v (.int .i64 0)))))⟩
  .done))))
 .ret)))))))))
def r50 : List XR := [.cell 8 (some 10), .tmp 9]
theorem fn50 : FnX Tryz.prog 50 EFF 70 x50 r50 := ⟨_, Tryz.func50, by kernel_rfl, by kernel_rfl, by kernel_rfl, by kernel_rfl⟩
-- (*almshouse/table.Table).Clear (2 parameters)
def x51 : XC := (.seq (.tree (.seq ⟨some 4, none, (.ofA (.mv (.cst (.v (.bool false)))))⟩
  .done))
 (.seq (.tree (.seq ⟨some 9, none, (.ofA (.mv (.tmp 0)))⟩
  (.seq ⟨some 10, none, (.ofA (.mv (.tmp 1)))⟩
  (.seq ⟨some 11, none, (.call (.cst (.fn 49 [])) [(.tmp 9), (.tmp 10)])⟩
  (.seq ⟨some 8, none, (.ofA (.mv (.tmp 11)))⟩
  (.seq ⟨some 12, none, (.ofA (.extract 0 (.tmp 8)))⟩
  (.seq ⟨some 13, none, (.ofA (.extract 1 (.tmp 8)))⟩
  (.seq ⟨some 14, none, (.ofA (.extract 2 (.tmp 8)))⟩
  (.seq ⟨some 5, none, (.ofA (.mv (.tmp 12)))⟩
  (.seq ⟨some 6, none, (.ofA (.mv (.tmp 13)))⟩
  (.seq ⟨some 7, none, (.ofA (.mv (.tmp 14)))⟩
  .done)))))))))))
 (.seq (.seq (.tree (.seq ⟨some 15, none, (.ofA (.mv (.tmp 7)))⟩
  .done))
 (.cond (.tmp 15)
 (.seq (.tree (.seq ⟨some 16, none, (.ofA (.mv (.tmp 0)))⟩
  (.seq ⟨some 17, none, (.ofA (.nilc (.tmp 16)))⟩
  (.seq ⟨some 18, none, (.ofA (.faddr 193 (.tmp 17)))⟩
  (.seq ⟨some 19, none, (.ofA (.load none (.tmp 18)))⟩
  (.seq ⟨some 20, none, (.ofA (.mv (.tmp 5)))⟩
  (.seq ⟨some 21, none, (.ofA (.isl 1 (.tmp 19) (.tmp 20)))⟩
  (.seq ⟨some 22, none, (.ofA (.load none (.tmp 21)))⟩
  (.seq ⟨some 23, none, (.ofA (.mv (.tmp 6)))⟩
  (.seq ⟨some 24, none, (.ofA (.isl 1 (.tmp 22) (.tmp 23)))⟩
  (.seq ⟨none, none, (.store 1 (.tmp 24) (.cst (.v (.int .i64 (-1)))))⟩
  .done)))))))))))
 (.seq (.tree (.seq ⟨some 25, none, (.ofA (.mv (.tmp 0)))⟩
  (.seq ⟨some 26, none, (.ofA (.nilc (.tmp 25)))⟩
  (.seq ⟨some 27, none, (.ofA (.faddr 194 (.tmp 26)))⟩
  (.seq ⟨some 28, none, (.ofA (.load none (.tmp 27)))⟩
  (.seq ⟨some 29, none, (.ofA (.mv (.tmp 5)))⟩
  (.seq ⟨some 30, none, (.ofA (.isl 1 (.tmp 28) (.tmp 29)))⟩
  (.seq ⟨some 31, none, (.ofA (.load none (.tmp 30)))⟩
  (.seq ⟨some 32, none, (.ofA (.bin .sub (.tmp 31) (.cst (.v (.int .i64 1)))))⟩
  (.seq ⟨some 33, none, (.ofA (.isl 1 (.tmp 28) (.tmp 29)))⟩
  (.seq ⟨none, none, (.store 1 (.tmp 33) (.tmp 32))⟩
  .done)))))))))))
 (.tree (.seq ⟨some 34, none, (.ofA (.mv (.tmp 0)))⟩
  (.seq ⟨some 35, none, (.ofA (.mv (.tmp 1)))⟩
  (.seq ⟨some 36, none, (.build [(.v (.int .i64 0)), (.v (.int .i64 0)), (.v (.bool false))] [])⟩
  (.seq ⟨some 37, none, (.ofA (.nilc (.tmp 34)))⟩
  (.seq ⟨some 38, none, (.ofA (.faddr 1 (.tmp 37)))⟩
  (.seq ⟨some 39, none, (.ofA (.iarr 64 3 (.tmp 38) (.tmp 35)))⟩
  (.seq ⟨none, none, (.store 3 (.tmp 39) (.tmp 36))⟩
  .done))))))))))
 .skip))
 (.seq (.tree (.seq ⟨some 40, none, (.ofA (.mv (.tmp 7)))⟩
  (.seq ⟨some 4, none, (.ofA (.mv (.tmp 40)))⟩
  .done)))
 .ret))))
def r51 : List XR := [.tmp 4]
theorem fn51 : FnX Tryz.prog 51 EFF 41 x51 r51 := ⟨_, Tryz.func51, by kernel_rfl, by kernel_rfl, by kernel_rfl, by kernel_rfl⟩
-- (*almshouse/table.Table).Grow (2 parameters)
def x52 : XC := (.seq (.seq (.tree (.seq ⟨some 6, none, (.ofA (.mv (.tmp 0)))⟩
  (.seq ⟨some 7, none, (.ofA (.eqn false 1 (.tmp 6) (.cst (.v (.pointer none)))))⟩
  .done)))
 (.cond (.tmp 7)
 .ret
 .skip))
 (.seq (.tree (.seq ⟨some 8, none, (.ofA (.mv (.tmp 1)))⟩
  (.seq ⟨some 9, none, (.ofA (.mx true (.tmp 8) [(.cst (.v (.int .i64 0)))]))⟩
  (.seq ⟨some 10, none, (.ofA (.mv (.tmp 0)))⟩
  (.seq ⟨some 11, none, (.ofA (.nilc (.tmp 10)))⟩
  (.seq ⟨some 12, none, (.ofA (.faddr 194 (.tmp 11)))⟩
  (.seq ⟨some 13, none, (.ofA (.load none (.tmp 12)))⟩
  (.seq ⟨some 14, none, (.ofA (.len (.tmp 13)))⟩
  (.seq ⟨some 15, none, (.ofA (.bin .sub (.cst (.v (.int .i64 64))) (.tmp 14)))⟩
  (.seq ⟨some 16, none, (.ofA (.mx false (.tmp 9) [(.tmp 15)]))⟩
  (.seq ⟨some 17, none, (.ofA (.mv (.cst (.v (.int .i64 0)))))⟩
  .done)))))))))))
 (.block 0 (.loop (.seq (.tree (.seq ⟨some 18, none, (.ofA (.bin .lss (.tmp 17) (.tmp 16)))⟩
  .done))
 (.seq (.cond (.tmp 18)
 .skip
 (.exit 0))
 (.seq (.block 1 (.seq (.tree (.seq ⟨some 19, none, (.ofA (.mv (.tmp 0)))⟩
  (.seq ⟨some 20, none, (.ofA (.nilc (.tmp 19)))⟩
  (.seq ⟨some 21, none, (.ofA (.faddr 0 (.tmp 20)))⟩
  (.seq ⟨some 22, none, (.ofA (.load none (.tmp 21)))⟩
  (.seq ⟨some 23, none, (.mkSl 1 8 [(.v (.int .i64 0))] (.tmp 22) (.tmp 22))⟩
  (.seq ⟨some 4, none, (.ofA (.mv (.tmp 23)))⟩
  .done)))))))
 (.seq (.seq (.tree (.seq ⟨some 24, none, (.ofA (.mv (.tmp 4)))⟩
  (.seq ⟨some 25, none, (.ofA (.len (.tmp 24)))⟩
  (.seq ⟨some 26, none, (.ofA (.mv (.cst (.v (.int .i64 0)))))⟩
  .done))))
 (.block 2 (.loop (.seq (.tree (.seq ⟨some 27, none, (.ofA (.bin .lss (.tmp 26) (.tmp 25)))⟩
  .done))
 (.seq (.cond (.tmp 27)
 .skip
 (.exit 2))
 (.seq (.block 3 (.seq (.tree (.seq ⟨some 28, none, (.ofA (.mv (.tmp 26)))⟩
  (.seq ⟨some 5, none, (.ofA (.mv (.tmp 28)))⟩
  .done)))
 (.tree (.seq ⟨some 29, none, (.ofA (.mv (.tmp 4)))⟩
  (.seq ⟨some 30, none, (.ofA (.mv (.tmp 5)))⟩
  (.seq ⟨some 31, none, (.ofA (.isl 1 (.tmp 29) (.tmp 30)))⟩
  (.seq ⟨none, none, (.store 1 (.tmp 31) (.cst (.v (.int .i64 (-1)))))⟩
  .done)))))))
 (.tree (.seq ⟨some 32, none, (.ofA (.bin .add (.tmp 26) (.cst (.v (.int .i64 1)))))⟩
  (.seq ⟨some 26, none, (.ofA (.mv (.tmp 32)))⟩
  .done)))))))))
 (.seq (.tree (.seq ⟨some 33, none, (.ofA (.mv (.tmp 0)))⟩
  (.seq ⟨some 34, none, (.ofA (.mv (.tmp 0)))⟩
  (.seq ⟨some 35, none, (.ofA (.nilc (.tmp 34)))⟩
  (.seq ⟨some 36, none, (.ofA (.faddr 193 (.tmp 35)))⟩
  (.seq ⟨some 37, none, (.ofA (.load none (.tmp 36)))⟩
  (.seq ⟨some 38, none, (.ofA (.mv (.tmp 4)))⟩
  (.seq ⟨some 39, none, (.buildSl 1 1 [(.v (.slice none 0 0))] [(0, 1, (.tmp 38))])⟩
  (.seq ⟨some 40, none, (.app 1 24 (.tmp 37) (.tmp 39))⟩
  (.seq ⟨some 41, none, (.ofA (.nilc (.tmp 33)))⟩
  (.seq ⟨some 42, none, (.ofA (.faddr 193 (.tmp 41)))⟩
  (.seq ⟨none, none, (.store 1 (.tmp 42) (.tmp 40))⟩
  .done))))))))))))
 (.tree (.seq ⟨some 43, none, (.ofA (.mv (.tmp 0)))⟩
  (.seq ⟨some 44, none, (.ofA (.mv (.tmp 0)))⟩
  (.seq ⟨some 45, none, (.ofA (.nilc (.tmp 44)))⟩
  (.seq ⟨some 46, none, (.ofA (.faddr 194 (.tmp 45)))⟩
  (.seq ⟨some 47, none, (.ofA (.load none (.tmp 46)))⟩
  (.seq ⟨some 48, none, (.buildSl 1 1 [(.v (.int .i64 0))] [(0, 1, (.cst (.v (.int .i64 0))))])⟩
  (.seq ⟨some 49, none, (.app 1 8 (.tmp 47) (.tmp 48))⟩
  (.seq ⟨some 50, none, (.ofA (.nilc (.tmp 43)))⟩
  (.seq ⟨some 51, none, (.ofA (.faddr 194 (.tmp 50)))⟩
  (.seq ⟨none, none, (.store 1 (.tmp 51) (.tmp 49))⟩
  .done)))))))))))))))
 (.tree (.seq ⟨some 52, none, (.ofA (.bin .add (.tmp 17) (.cst (.v (.int .i64 1)))))⟩
  (.seq ⟨some 17, none, (.ofA (.mv (.tmp 52)))⟩
  .done))))))))))
def r52 : List XR := []
theorem fn52 : FnX Tryz.prog 52 EFF 53 x52 r52 := ⟨_, Tryz.func52, by kernel_rfl, by kernel_rfl, by kernel_rfl, by kernel_rfl⟩
-- almshouse/table.New (2 parameters)
def x53 : XC := (.seq (.tree (.seq ⟨some 4, none, (.ofA (.mv (.cst (.v (.pointer none)))))⟩
  .done))
 (.seq (.seq (.tree (.seq ⟨some 6, none, (.ofA (.mv (.tmp 0)))⟩
  (.seq ⟨some 7, none, (.ofA (.bin .lss (.tmp 6) (.cst (.v (.int .i64 1)))))⟩
  (.seq ⟨some 8, none, (.ofA (.mv (.tmp 7)))⟩
  (.seq ⟨some 9, some (8, false), (.ofA (.mv (.tmp 0)))⟩
  (.seq ⟨some 10, some (8, false), (.ofA (.bin .gtr (.tmp 9) (.cst (.v (.int .i64 64)))))⟩
  (.seq ⟨some 11, none, (.ofA (.pick (.tmp 8) (.cst (.v (.bool true))) (.tmp 10)))⟩
  (.seq ⟨some 12, none, (.ofA (.mv (.tmp 11)))⟩
  (.seq ⟨some 13, some (12, false), (.ofA (.mv (.tmp 1)))⟩
  (.seq ⟨some 14, some (12, false), (.ofA (.bin .lss (.tmp 13) (.cst (.v (.int .i64 2)))))⟩
  (.seq ⟨some 15, none, (.ofA (.pick (.tmp 12) (.cst (.v (.bool true))) (.tmp 14)))⟩
  (.seq ⟨some 16, none, (.ofA (.mv (.tmp 15)))⟩
  (.seq ⟨some 17, some (16, false), (.ofA (.mv (.tmp 1)))⟩
  (.seq ⟨some 18, some (16, false), (.ofA (.bin .gtr (.tmp 17) (.cst (.v (.int .i64 16)))))⟩
  (.seq ⟨some 19, none, (.ofA (.pick (.tmp 16) (.cst (.v (.bool true))) (.tmp 18)))⟩
  .done)))))))))))))))
 (.cond (.tmp 19)
 (.seq (.tree (.seq ⟨some 4, none, (.ofA (.mv (.cst (.v (.pointer none)))))⟩
  .done))
 .ret)
 .skip))
 (.seq (.tree (.seq ⟨some 20, none, (.ofA (.mv (.tmp 1)))⟩
  (.seq ⟨some 21, none, (.build [(.v (.int .i64 0)), (.v (.int .i64 0)), (.v (.int .i64 0)), (.v (.bool false)), (.v (.int .i64 0)), (.v (.int .i64 0)), (.v (.bool false)), (.v (.int .i64 0)), (.v (.int .i64 0)), (.v (.bool false)), (.v (.int .i64 0)), (.v (.int .i64 0)), (.v (.bool false)), (.v (.int .i64 0)), (.v (.int .i64 0)), (.v (.bool false)), (.v (.int .i64 0)), (.v (.int .i64 0)), (.v (.bool false)), (.v (.int .i64 0)), (.v (.int .i64 0)), (.v (.bool false)), (.v (.int .i64 0)), (.v (.int .i64 0)), (.v (.bool false)), (.v (.int .i64 0)), (.v (.int .i64 0)), (.v (.bool false)), (.v (.int .i64 0)), (.v (.int .i64 0)), (.v (.bool false)), (.v (.int .i64 0)), (.v (.int .i64 0)), (.v (.bool false)), (.v (.int .i64 0)), (.v (.int .i64 0)), (.v (.bool false)), (.v (.int .i64 0)), (.v (.int .i64 0)), (.v (.bool false)), (.v (.int .i64 0)), (.v (.int .i64 0)), (.v (.bool false)), (.v (.int .i64 0)), (.v (.int .i64 0)), (.v (.bool false)), (.v (.int .i64 0)), (.v (.int .i64 0)), (.v (.bool false)), (.v (.int .i64 0)), (.v (.int .i64 0)), (.v (.bool false)), (.v (.int .i64 0)), (.v (.int .i64 0)), (.v (.bool false)), (.v (.int .i64 0)), (.v (.int .i64 0)), (.v (.bool false)), (.v (.int .i64 0)), (.v (.int .i64 0)), (.v (.bool false)), (.v (.int .i64 0)), (.v (.int .i64 0)), (.v (.bool false)), (.v (.int .i64 0)), (.v (.int .i64 0)), (.v (.bool false)), (.v (.int .i64 0)), (.v (.int .i64 0)), (.v (.bool false)), (.v (.int .i64 0)), (.v (.int .i64 0)), (.v (.bool false)), (.v (.int .i64 0)), (.v (.int .i64 0)), (.v (.bool false)), (.v (.int .i64 0)), (.v (.int .i64 0)), (.v (.bool false)), (.v (.int .i64 0)), (.v (.int .i64 0)), (.v (.bool false)), (.v (.int .i64 0)), (.v (.int .i64 0)), (.v (.bool false)), (.v (.int .i64 0)), (.v (.int .i64 0)), (.v (.bool false)), (.v (.int .i64 0)), (.v (.int .i64 0)), (.v (.bool false)), (.v (.int .i64 0)), (.v (.int .i64 0)), (.v (.bool false)), (.v (.int .i64 0)), (.v (.int .i64 0)), (.v (.bool false)), (.v (.int .i64 0)), (.v (.int .i64 0)), (.v (.bool false)), (.v (.int .i64 0)), (.v (.int .i64 0)), (.v (.bool false)), (.v (.int .i64 0)), (.v (.int .i64 0)), (.v (.bool false)), (.v (.int .i64 0)), (.v (.int .i64 0)), (.v (.bool false)), (.v (.int .i64 0)), (.v (.int .i64 0)), (.v (.bool false)), (.v (.int .i64 0)), (.v (.int .i64 0)), (.v (.bool false)), (.v (.int .i64 0)), (.v (.int .i64 0)), (.v (.bool false)), (.v (.int .i64 0)), (.v (.int .i64 0)), (.v (.bool false)), (.v (.int .i64 0)), (.v (.int .i64 0)), (.v (.bool false)), (.v (.int .i64 0)), (.v (.int .i64 0)), (.v (.bool false)), (.v (.int .i64 0)), (.v (.int .i64 0)), (.v (.bool false)), (.v (.int .i64 0)), (.v (.int .i64 0)), (.v (.bool false)), (.v (.int .i64 0)), (.v (.int .i64 0)), (.v (.bool false)), (.v (.int .i64 0)), (.v (.int .i64 0)), (.v (.bool false)), (.v (.int .i64 0)), (.v (.int .i64 0)), (.v (.bool false)), (.v (.int .i64 0)), (.v (.int .i64 0)), (.v (.bool false)), (.v (.int .i64 0)), (.v (.int .i64 0)), (.v (.bool false)), (.v (.int .i64 0)), (.v (.int .i64 0)), (.v (.bool false)), (.v (.int .i64 0)), (.v (.int .i64 0)), (.v (.bool false)), (.v (.int .i64 0)), (.v (.int .i64 0)), (.v (.bool false)), (.v (.int .i64 0)), (.v (.int .i64 0)), (.v (.bool false)), (.v (.int .i64 0)), (.v (.int .i64 0)), (.v (.bool false)), (.v (.int .i64 0)), (.v (.int .i64 0)), (.v (.bool false)), (.v (.int .i64 0)), (.v (.int .i64 0)), (.v (.bool false)), (.v (.int .i64 0)), (.v (.int .i64 0)), (.v (.bool false)), (.v (.int .i64 0)), (.v (.int .i64 0)), (.v (.bool false)), (.v (.int .i64 0)), (.v (.int .i64 0)), (.v (.bool false)), (.v (.int .i64 0)), (.v (.int .i64 0)), (.v (.bool false)), (.v (.int .i64 0)), (.v (.int .i64 0)), (.v (.bool false)), (.v (.int .i64 0)), (.v (.int .i64 0)), (.v (.bool false)), (.v (.int .i64 0)), (.v (.int .i64 0)), (.v (.bool false)), (.v (.int .i64 0)), (.v (.int .i64 0)), (.v (.bool false)), (.v (.slice none 0 0)), (.v (.slice none 0 0))] [(0, 1, (.tmp 20))])⟩
  (.seq ⟨some 22, none, (.box (.tmp 21))⟩
  (.seq ⟨some 5, none, (.ofA (.mv (.tmp 22)))⟩
  .done)))))
 (.seq (.tree (.seq ⟨some 23, none, (.ofA (.mv (.tmp 5)))⟩
  (.seq ⟨some 24, none, (.ofA (.mv (.tmp 0)))⟩
  (.seq ⟨some 25, none, (.call (.cst (.fn 52 [])) [(.tmp 23), (.tmp 24)])⟩
  .done))))
 (.seq (.tree (.seq ⟨some 26, none, (.ofA (.mv (.tmp 5)))⟩
  (.seq ⟨some 4, none, (.ofA (.mv (.tmp 26)))⟩
  .done)))
 .ret)))))
def r53 : List XR := [.tmp 4]
theorem fn53 : FnX Tryz.prog 53 EFF 27 x53 r53 := ⟨_, Tryz.func53, by kernel_rfl, by kernel_rfl, by kernel_rfl, by kernel_rfl⟩
-- (*almshouse/nand.Nand).Geometry (1 parameters)
def x54 : XC := (.seq (.tree (.seq ⟨some 2, none, (.alloc [(.v (.int .i64 0)), (.v (.int .i64 0)), (.v (.int .i64 0)), (.v (.int .i64 0))])⟩
  .done))
 (.seq (.seq (.tree (.seq ⟨some 3, none, (.ofA (.mv (.tmp 0)))⟩
  (.seq ⟨some 4, none, (.ofA (.eqn false 1 (.tmp 3) (.cst (.v (.pointer none)))))⟩
  .done)))
 (.cond (.tmp 4)
 (.seq (.tree (.seq ⟨some 5, none, (.build [(.v (.int .i64 0)), (.v (.int .i64 0)), (.v (.int .i64 0)), (.v (.int .i64 0))] [])⟩
  (.seq ⟨none, none, (.store 4 (.tmp 2) (.tmp 5))⟩
  .done)))
 .ret)
 .skip))
 (.seq (.tree (.seq ⟨some 6, none, (.ofA (.mv (.tmp 0)))⟩
  (.seq ⟨some 7, none, (.ofA (.nilc (.tmp 6)))⟩
  (.seq ⟨some 8, none, (.ofA (.faddr 0 (.tmp 7)))⟩
  (.seq ⟨some 9, none, (.ofA (.load (some 4) (.tmp 8)))⟩
  (.seq ⟨none, none, (.store 4 (.tmp 2) (.tmp 9))⟩
  .done))))))
 .ret)))
def r54 : List XR := [.cell 2 (some 4)]
theorem fn54 : FnX Tryz.prog 54 EFF 10 x54 r54 := ⟨_, Tryz.func54, by kernel_rfl, by kernel_rfl, by kernel_rfl, by kernel_rfl⟩
-- slices.Clone[[]int,int] (1 parameters)
def x55 : XC := (.seq (.tree (.seq ⟨some 2, none, (.ofA (.mv (.cst (.v (.slice none 0 0)))))⟩
  .done))
 (.seq (.seq (.tree (.seq ⟨some 3, none, (.ofA (.mv (.tmp 0)))⟩
  (.seq ⟨some 4, none, (.ofA (.eqn false 2 (.tmp 3) (.cst (.v (.slice none 0 0)))))⟩
  .done)))
 (.cond (.tmp 4)
 (.seq (.tree (.seq ⟨some 2, none, (.ofA (.mv (.cst (.v (.slice none 0 0)))))⟩
  .done))
 .ret)
 .skip))
 (.seq (.tree (.seq ⟨some 5, none, (.buildSl 1 0 [] [])⟩
  (.seq ⟨some 6, none, (.ofA (.mv (.tmp 0)))⟩
  (.seq ⟨some 7, none, (.app 1 8 (.tmp 5) (.tmp 6))⟩
  (.seq ⟨some 2, none, (.ofA (.mv (.tmp 7)))⟩
  .done)))))
 .ret)))
def r55 : List XR := [.tmp 2]
theorem fn55 : FnX Tryz.prog 55 EFF 8 x55 r55 := ⟨_, Tryz.func55, by kernel_rfl, by kernel_rfl, by kernel_rfl, by kernel_rfl⟩
-- almshouse/buffer.New (0 parameters)
def x56 : XC := (.seq (.tree (.seq ⟨some 0, none, (.ofA (.mv (.cst (.v (.pointer none)))))⟩
  .done))
 (.seq (.tree (.seq ⟨some 1, none, (.build [(.v (.int .i64 0)), (.v (.int .i64 0)), (.v (.string ⟨#[]⟩)), (.v (.int .i64 0)), (.v (.int .i64 0)), (.v (.string ⟨#[]⟩)), (.v (.int .i64 0)), (.v (.int .i64 0)), (.v (.string ⟨#[]⟩)), (.v (.int .i64 0)), (.v (.int .i64 0)), (.v (.string ⟨#[]⟩)), (.v (.int .i64 0)), (.v (.int .i64 0))] [])⟩
  (.seq ⟨some 2, none, (.box (.tmp 1))⟩
  (.seq ⟨some 0, none, (.ofA (.mv (.tmp 2)))⟩
  .done))))
 .ret))
def r56 : List XR := [.tmp 0]
theorem fn56 : FnX Tryz.prog 56 EFF 3 x56 r56 := ⟨_, Tryz.func56, by kernel_rfl, by kernel_rfl, by kernel_rfl, by kernel_rfl⟩
-- (*almshouse/store.Store).change (2 parameters)
def x57 : XC := (.seq (.tree (.seq ⟨some 3, none, (.box (.tmp 1))⟩
  (.seq ⟨some 4, none, (.ofA (.mv (.cst (.v (.int .i64 0)))))⟩
  .done)))
 (.seq (.seq (.tree (.seq ⟨some 7, none, (.ofA (.mv (.tmp 0)))⟩
  (.seq ⟨some 8, none, (.ofA (.faddr 0 (.tmp 3)))⟩
  (.seq ⟨some 9, none, (.ofA (.load none (.tmp 8)))⟩
  (.seq ⟨some 10, none, (.call (.cst (.fn 47 [])) [(.tmp 7), (.tmp 9)])⟩
  (.seq ⟨some 5, none, (.ofA (.mv (.tmp 10)))⟩
  .done))))))
 (.seq (.tree (.seq ⟨some 11, none, (.ofA (.mv (.tmp 5)))⟩
  (.seq ⟨some 12, none, (.ofA (.bin .neq (.tmp 11) (.cst (.v (.int .i64 0)))))⟩
  .done)))
 (.cond (.tmp 12)
 (.seq (.tree (.seq ⟨some 13, none, (.ofA (.mv (.tmp 5)))⟩
  (.seq ⟨some 4, none, (.ofA (.mv (.tmp 13)))⟩
  .done)))
 .ret)
 .skip)))
 (.seq (.block 0 (.seq (.tree (.seq ⟨some 15, none, (.ofA (.faddr 2 (.tmp 3)))⟩
  (.seq ⟨some 16, none, (.ofA (.load none (.tmp 15)))⟩
  (.seq ⟨some 17, none, (.ofA (.lens (.tmp 16)))⟩
  (.seq ⟨some 18, none, (.ofA (.bin .gtr (.tmp 17) (.cst (.v (.int .i64 16)))))⟩
  (.seq ⟨some 14, none, (.ofA (.mv (.tmp 18)))⟩
  .done))))))
 (.cond (.tmp 14)
 (.seq (.tree (.seq ⟨some 4, none, (.ofA (.mv (.cst (.v (.int .i64 3)))))⟩
  .done))
 .ret)
 (.seq (.tree (.seq ⟨some 20, none, (.ofA (.mv (.tmp 0)))⟩
  (.seq ⟨some 21, none, (.ofA (.nilc (.tmp 20)))⟩
  (.seq ⟨some 22, none, (.ofA (.faddr 11 (.tmp 21)))⟩
  (.seq ⟨some 23, none, (.ofA (.load none (.tmp 22)))⟩
  (.seq ⟨some 19, none, (.ofA (.mv (.tmp 23)))⟩
  .done))))))
 (.cond (.tmp 19)
 (.seq (.tree (.seq ⟨some 4, none, (.ofA (.mv (.cst (.v (.int .i64 13)))))⟩
  .done))
 .ret)
 .skip)))))
 (.seq (.seq (.tree (.seq ⟨some 24, none, (.ofA (.mv (.tmp 0)))⟩
  (.seq ⟨some 25, none, (.ofA (.nilc (.tmp 24)))⟩
  (.seq ⟨some 26, none, (.ofA (.faddr 8 (.tmp 25)))⟩
  (.seq ⟨some 27, none, (.ofA (.load none (.tmp 26)))⟩
  (.seq ⟨some 28, none, (.call (.cst (.fn 121 [])) [(.tmp 27)])⟩
  .done))))))
 (.cond (.tmp 28)
 (.seq (.tree (.seq ⟨some 29, none, (.ofA (.mv (.tmp 0)))⟩
  (.seq ⟨some 30, none, (.call (.cst (.fn 59 [])) [(.tmp 29)])⟩
  (.seq ⟨some 6, none, (.ofA (.mv (.tmp 30)))⟩
  .done))))
 (.seq (.tree (.seq ⟨some 31, none, (.ofA (.mv (.tmp 6)))⟩
  (.seq ⟨some 32, none, (.ofA (.bin .neq (.tmp 31) (.cst (.v (.int .i64 0)))))⟩
  .done)))
 (.cond (.tmp 32)
 (.seq (.tree (.seq ⟨some 33, none, (.ofA (.mv (.tmp 6)))⟩
  (.seq ⟨some 4, none, (.ofA (.mv (.tmp 33)))⟩
  .done)))
 .ret)
 .skip)))
 .skip))
 (.seq (.tree (.take ⟨some 34, none, (.ofA (.mv (.tmp 0)))⟩
  (.take ⟨some 35, none, (.ofA (.nilc (.tmp 34)))⟩
  (.take ⟨some 36, none, (.ofA (.faddr 8 (.tmp 35)))⟩
  (.take ⟨some 37, none, (.ofA (.load none (.tmp 36)))⟩
  (.take ⟨some 38, none, (.ofA (.load (some 3) (.tmp 3)))⟩
  (.alt [false] [(⟨some 39, none, (.call (.cst (.fn 122 [])) [(.tmp 37), (.tmp 38)])⟩,
 (.take ⟨some 4, none, (.ofA (.mv (.tmp 39)))⟩
  .done))])))))))
 .ret)))))
def r57 : List XR := [.tmp 4]
theorem fn57 : FnX Tryz.prog 57 EFF 40 x57 r57 := ⟨_, Tryz.func57, by kernel_rfl, by kernel_rfl, by kernel_rfl, by kernel_rfl⟩
-- (*almshouse/buffer.Buffer).Len (1 parameters)
def x58 : XC := (.seq (.tree (.seq ⟨some 2, none, (.ofA (.mv (.cst (.v (.int .i64 0)))))⟩
  .done))
 (.seq (.seq (.tree (.seq ⟨some 3, none, (.ofA (.mv (.tmp 0)))⟩
  (.seq ⟨some 4, none, (.ofA (.eqn false 1 (.tmp 3) (.cst (.v (.pointer none)))))⟩
  .done)))
 (.cond (.tmp 4)
 (.seq (.tree (.seq ⟨some 2, none, (.ofA (.mv (.cst (.v (.int .i64 0)))))⟩
  .done))
 .ret)
 .skip))
 (.seq (.tree (.seq ⟨some 5, none, (.ofA (.mv (.tmp 0)))⟩
  (.seq ⟨some 6, none, (.ofA (.nilc (.tmp 5)))⟩
  (.seq ⟨some 7, none, (.ofA (.faddr 13 (.tmp 6)))⟩
  (.seq ⟨some 8, none, (.ofA (.load none (.tmp 7)))⟩
  (.seq ⟨some 2, none, (.ofA (.mv (.tmp 8)))⟩
  .done))))))
 .ret)))
def r58 : List XR := [.tmp 2]
theorem fn58 : FnX Tryz.prog 58 EFF 9 x58 r58 := ⟨_, Tryz.func58, by kernel_rfl, by kernel_rfl, by kernel_rfl, by kernel_rfl⟩
-- (*almshouse/store.Store).drain (1 parameters)
def x59 : XC := (.seq (.tree (.seq ⟨some 2, none, (.ofA (.mv (.cst (.v (.int .i64 0)))))⟩
  .done))
 (.seq (.tree (.seq ⟨some 7, none, (.ofA (.mv (.tmp 0)))⟩
  (.seq ⟨some 8, none, (.ofA (.nilc (.tmp 7)))⟩
  (.seq ⟨some 9, none, (.ofA (.faddr 8 (.tmp 8)))⟩
  (.seq ⟨some 10, none, (.ofA (.load none (.tmp 9)))⟩
  (.seq ⟨some 11, none, (.call (.cst (.fn 123 [])) [(.tmp 10)])⟩
  (.seq ⟨some 6, none, (.ofA (.mv (.tmp 11)))⟩
  (.seq ⟨some 12, none, (.ofA (.extract 0 (.tmp 6)))⟩
  (.seq ⟨some 13, none, (.ofA (.extract 1 (.tmp 6)))⟩
  (.seq ⟨some 3, none, (.alloc [(.v (.int .i64 0)), (.v (.int .i64 0)), (.v (.string ⟨#[]⟩))])⟩
  (.seq ⟨none, none, (.store 3 (.tmp 3) (.tmp 12))⟩
  (.seq ⟨some 4, none, (.ofA (.mv (.tmp 13)))⟩
  .done))))))))))))
 (.seq (.seq (.tree (.seq ⟨some 14, none, (.ofA (.mv (.tmp 4)))⟩
  (.seq ⟨some 15, none, (.ofA (.un .not (.tmp 14)))⟩
  .done)))
 (.cond (.tmp 15)
 (.seq (.tree (.seq ⟨some 2, none, (.ofA (.mv (.cst (.v (.int .i64 0)))))⟩
  .done))
 .ret)
 .skip))
 (.seq (.seq (.tree (.seq ⟨some 16, none, (.ofA (.mv (.tmp 0)))⟩
  (.seq ⟨some 17, none, (.ofA (.load (some 3) (.tmp 3)))⟩
  (.seq ⟨some 18, none, (.call (.cst (.fn 124 [])) [(.tmp 16), (.tmp 17)])⟩
  (.seq ⟨some 5, none, (.ofA (.mv (.tmp 18)))⟩
  .done)))))
 (.seq (.tree (.seq ⟨some 19, none, (.ofA (.mv (.tmp 5)))⟩
  (.seq ⟨some 20, none, (.ofA (.bin .neq (.tmp 19) (.cst (.v (.int .i64 0)))))⟩
  .done)))
 (.cond (.tmp 20)
 (.seq (.tree (.seq ⟨some 21, none, (.ofA (.mv (.tmp 5)))⟩
  (.seq ⟨some 2, none, (.ofA (.mv (.tmp 21)))⟩
  .done)))
 .ret)
 .skip)))
 (.seq (.tree (.seq ⟨some 22, none, (.ofA (.mv (.tmp 0)))⟩
  (.seq ⟨some 23, none, (.ofA (.nilc (.tmp 22)))⟩
  (.seq ⟨some 24, none, (.ofA (.faddr 8 (.tmp 23)))⟩
  (.seq ⟨some 25, none, (.ofA (.load none (.tmp 24)))⟩
  (.seq ⟨some 26, none, (.call (.cst (.fn 125 [])) [(.tmp 25)])⟩
  .done))))))
 (.seq (.tree (.seq ⟨some 2, none, (.ofA (.mv (.cst (.v (.int .i64 0)))))⟩
  .done))
 .ret))))))
def r59 : List XR := [.tmp 2]
theorem fn59 : FnX Tryz.prog 59 EFF 27 x59 r59 := ⟨_, Tryz.func59, by kernel_rfl, by kernel_rfl, by kernel_rfl, by kernel_rfl⟩
-- (*almshouse/store.Store).bad (2 parameters)
def x60 : XC := (.seq (.tree (.seq ⟨some 4, none, (.ofA (.mv (.cst (.v (.bool false)))))⟩
  .done))
 (.seq (.tree (.take ⟨some 5, none, (.ofA (.mv (.tmp 0)))⟩
  (.take ⟨some 6, none, (.ofA (.nilc (.tmp 5)))⟩
  (.take ⟨some 7, none, (.ofA (.faddr 0 (.tmp 6)))⟩
  (.take ⟨some 8, none, (.ofA (.load none (.tmp 7)))⟩
  (.take ⟨some 9, none, (.ofA (.mv (.tmp 0)))⟩
  (.take ⟨some 10, none, (.ofA (.nilc (.tmp 9)))⟩
  (.take ⟨some 11, none, (.ofA (.faddr 2 (.tmp 10)))⟩
  (.take ⟨some 12, none, (.ofA (.faddr 4 (.tmp 11)))⟩
  (.take ⟨some 13, none, (.ofA (.load none (.tmp 12)))⟩
  (.take ⟨some 14, none, (.ofA (.mv (.tmp 1)))⟩
  (.take ⟨some 15, none, (.ofA (.isl 1 (.tmp 13) (.tmp 14)))⟩
  (.take ⟨some 16, none, (.ofA (.load none (.tmp 15)))⟩
  (.act true [(⟨some 17, none, (.call (.cst (.fn 126 [])) [(.tmp 8), (.tmp 16)])⟩,
 (.take ⟨some 4, none, (.ofA (.mv (.tmp 17)))⟩
  .done))]))))))))))))))
 .ret))
def r60 : List XR := [.tmp 4]
theorem fn60 : FnX Tryz.prog 60 EFF 18 x60 r60 := ⟨_, Tryz.func60, by kernel_rfl, by kernel_rfl, by kernel_rfl, by kernel_rfl⟩
-- (*almshouse/store.Store).next (2 parameters)
def x61 : XC := (.seq (.tree (.seq ⟨some 4, none, (.ofA (.mv (.cst (.v (.int .i64 0)))))⟩
  .done))
 (.seq (.tree (.take ⟨some 5, none, (.ofA (.mv (.tmp 0)))⟩
  (.take ⟨some 6, none, (.ofA (.nilc (.tmp 5)))⟩
  (.take ⟨some 7, none, (.ofA (.faddr 0 (.tmp 6)))⟩
  (.take ⟨some 8, none, (.ofA (.load none (.tmp 7)))⟩
  (.take ⟨some 9, none, (.ofA (.mv (.tmp 0)))⟩
  (.take ⟨some 10, none, (.ofA (.nilc (.tmp 9)))⟩
  (.take ⟨some 11, none, (.ofA (.faddr 2 (.tmp 10)))⟩
  (.take ⟨some 12, none, (.ofA (.faddr 4 (.tmp 11)))⟩
  (.take ⟨some 13, none, (.ofA (.load none (.tmp 12)))⟩
  (.take ⟨some 14, none, (.ofA (.mv (.tmp 1)))⟩
  (.take ⟨some 15, none, (.ofA (.isl 1 (.tmp 13) (.tmp 14)))⟩
  (.take ⟨some 16, none, (.ofA (.load none (.tmp 15)))⟩
  (.act true [(⟨some 17, none, (.call (.cst (.fn 127 [])) [(.tmp 8), (.tmp 16)])⟩,
 (.take ⟨some 4, none, (.ofA (.mv (.tmp 17)))⟩
  .done))]))))))))))))))
 .ret))
def r61 : List XR := [.tmp 4]
theorem fn61 : FnX Tryz.prog 61 EFF 18 x61 r61 := ⟨_, Tryz.func61, by kernel_rfl, by kernel_rfl, by kernel_rfl, by kernel_rfl⟩
-- (*almshouse/table.Table).Set (4 parameters)
def x68 : XC := (.seq (.tree (.seq ⟨some 8, none, (.ofA (.mv (.cst (.v (.int .i64 0)))))⟩
  .done))
 (.seq (.block 0 (.seq (.tree (.seq ⟨some 11, none, (.ofA (.mv (.tmp 0)))⟩
  (.seq ⟨some 12, none, (.ofA (.eqn false 1 (.tmp 11) (.cst (.v (.pointer none)))))⟩
  (.seq ⟨some 10, none, (.ofA (.mv (.tmp 12)))⟩
  .done))))
 (.cond (.tmp 10)
 (.seq (.tree (.seq ⟨some 8, none, (.ofA (.mv (.cst (.v (.int .i64 1)))))⟩
  .done))
 .ret)
 (.seq (.tree (.seq ⟨some 14, none, (.ofA (.mv (.tmp 1)))⟩
  (.seq ⟨some 15, none, (.ofA (.bin .lss (.tmp 14) (.cst (.v (.int .i64 0)))))⟩
  (.seq ⟨some 16, none, (.ofA (.mv (.tmp 15)))⟩
  (.seq ⟨some 17, some (16, false), (.ofA (.mv (.tmp 1)))⟩
  (.seq ⟨some 18, some (16, false), (.ofA (.bin .geq (.tmp 17) (.cst (.v (.int .i64 64)))))⟩
  (.seq ⟨some 19, none, (.ofA (.pick (.tmp 16) (.cst (.v (.bool true))) (.tmp 18)))⟩
  (.seq ⟨some 20, none, (.ofA (.mv (.tmp 19)))⟩
  (.seq ⟨some 21, some (20, false), (.ofA (.mv (.tmp 0)))⟩
  (.seq ⟨some 22, some (20, false), (.ofA (.mv (.tmp 2)))⟩
  (.seq ⟨some 23, some (20, false), (.ofA (.mv (.tmp 3)))⟩
  (.seq ⟨some 24, some (20, false), (.call (.cst (.fn 128 [])) [(.tmp 21), (.tmp 22), (.tmp 23)])⟩
  (.seq ⟨some 25, some (20, false), (.ofA (.un .not (.tmp 24)))⟩
  (.seq ⟨some 26, none, (.ofA (.pick (.tmp 20) (.cst (.v (.bool true))) (.tmp 25)))⟩
  (.seq ⟨some 13, none, (.ofA (.mv (.tmp 26)))⟩
  .done)))))))))))))))
 (.cond (.tmp 13)
 (.seq (.tree (.seq ⟨some 8, none, (.ofA (.mv (.cst (.v (.int .i64 5)))))⟩
  .done))
 .ret)
 .skip)))))
 (.seq (.seq (.tree (.seq ⟨some 27, none, (.ofA (.mv (.tmp 0)))⟩
  (.seq ⟨some 28, none, (.ofA (.nilc (.tmp 27)))⟩
  (.seq ⟨some 29, none, (.ofA (.faddr 193 (.tmp 28)))⟩
  (.seq ⟨some 30, none, (.ofA (.load none (.tmp 29)))⟩
  (.seq ⟨some 31, none, (.ofA (.mv (.tmp 2)))⟩
  (.seq ⟨some 32, none, (.ofA (.isl 1 (.tmp 30) (.tmp 31)))⟩
  (.seq ⟨some 33, none, (.ofA (.load none (.tmp 32)))⟩
  (.seq ⟨some 34, none, (.ofA (.mv (.tmp 3)))⟩
  (.seq ⟨some 35, none, (.ofA (.isl 1 (.tmp 33) (.tmp 34)))⟩
  (.seq ⟨some 36, none, (.ofA (.load none (.tmp 35)))⟩
  (.seq ⟨some 9, none, (.ofA (.mv (.tmp 36)))⟩
  .done))))))))))))
 (.seq (.tree (.seq ⟨some 37, none, (.ofA (.mv (.tmp 9)))⟩
  (.seq ⟨some 38, none, (.ofA (.bin .neq (.tmp 37) (.cst (.v (.int .i64 (-1))))))⟩
  (.seq ⟨some 39, none, (.ofA (.mv (.tmp 38)))⟩
  (.seq ⟨some 40, some (39, true), (.ofA (.mv (.tmp 9)))⟩
  (.seq ⟨some 41, some (39, true), (.ofA (.mv (.tmp 1)))⟩
  (.seq ⟨some 42, some (39, true), (.ofA (.bin .neq (.tmp 40) (.tmp 41)))⟩
  (.seq ⟨some 43, none, (.ofA (.pick (.tmp 39) (.tmp 42) (.cst (.v (.bool false)))))⟩
  .done))))))))
 (.cond (.tmp 43)
 (.seq (.tree (.seq ⟨some 8, none, (.ofA (.mv (.cst (.v (.int .i64 7)))))⟩
  .done))
 .ret)
 .skip)))
 (.seq (.tree (.seq ⟨some 44, none, (.ofA (.mv (.tmp 0)))⟩
  (.seq ⟨some 45, none, (.ofA (.mv (.tmp 1)))⟩
  (.seq ⟨some 46, none, (.call (.cst (.fn 51 [])) [(.tmp 44), (.tmp 45)])⟩
  .done))))
 (.seq (.tree (.seq ⟨some 47, none, (.ofA (.mv (.tmp 0)))⟩
  (.seq ⟨some 48, none, (.ofA (.mv (.tmp 1)))⟩
  (.seq ⟨some 49, none, (.ofA (.mv (.tmp 2)))⟩
  (.seq ⟨some 50, none, (.ofA (.mv (.tmp 3)))⟩
  (.seq ⟨some 51, none, (.build [(.v (.int .i64 0)), (.v (.int .i64 0)), (.v (.bool false))] [(0, 1, (.tmp 49)), (1, 1, (.tmp 50)), (2, 1, (.cst (.v (.bool true))))])⟩
  (.seq ⟨some 52, none, (.ofA (.nilc (.tmp 47)))⟩
  (.seq ⟨some 53, none, (.ofA (.faddr 1 (.tmp 52)))⟩
  (.seq ⟨some 54, none, (.ofA (.iarr 64 3 (.tmp 53) (.tmp 48)))⟩
  (.seq ⟨none, none, (.store 3 (.tmp 54) (.tmp 51))⟩
  .done))))))))))
 (.seq (.tree (.seq ⟨some 55, none, (.ofA (.mv (.tmp 0)))⟩
  (.seq ⟨some 56, none, (.ofA (.nilc (.tmp 55)))⟩
  (.seq ⟨some 57, none, (.ofA (.faddr 193 (.tmp 56)))⟩
  (.seq ⟨some 58, none, (.ofA (.load none (.tmp 57)))⟩
  (.seq ⟨some 59, none, (.ofA (.mv (.tmp 2)))⟩
  (.seq ⟨some 60, none, (.ofA (.isl 1 (.tmp 58) (.tmp 59)))⟩
  (.seq ⟨some 61, none, (.ofA (.load none (.tmp 60)))⟩
  (.seq ⟨some 62, none, (.ofA (.mv (.tmp 3)))⟩
  (.seq ⟨some 63, none, (.ofA (.mv (.tmp 1)))⟩
  (.seq ⟨some 64, none, (.ofA (.isl 1 (.tmp 61) (.tmp 62)))⟩
  (.seq ⟨none, none, (.store 1 (.tmp 64) (.tmp 63))⟩
  .done))))))))))))
 (.seq (.tree (.seq ⟨some 65, none, (.ofA (.mv (.tmp 0)))⟩
  (.seq ⟨some 66, none, (.ofA (.nilc (.tmp 65)))⟩
  (.seq ⟨some 67, none, (.ofA (.faddr 194 (.tmp 66)))⟩
  (.seq ⟨some 68, none, (.ofA (.load none (.tmp 67)))⟩
  (.seq ⟨some 69, none, (.ofA (.mv (.tmp 2)))⟩
  (.seq ⟨some 70, none, (.ofA (.isl 1 (.tmp 68) (.tmp 69)))⟩
  (.seq ⟨some 71, none, (.ofA (.load none (.tmp 70)))⟩
  (.seq ⟨some 72, none, (.ofA (.bin .add (.tmp 71) (.cst (.v (.int .i64 1)))))⟩
  (.seq ⟨some 73, none, (.ofA (.isl 1 (.tmp 68) (.tmp 69)))⟩
  (.seq ⟨none, none, (.store 1 (.tmp 73) (.tmp 72))⟩
  .done)))))))))))
 (.seq (.tree (.seq ⟨some 8, none, (.ofA (.mv (.cst (.v (.int .i64 0)))))⟩
  .done))
 .ret))))))))
def r68 : List XR := [.tmp 8]
theorem fn68 : FnX Tryz.prog 68 EFF 74 x68 r68 := ⟨_, Tryz.func68, by kernel_rfl, by kernel_rfl, by kernel_rfl, by kernel_rfl⟩
-- (*almshouse/store.Store).blank (2 parameters)
def x69 : XC := (.seq (.tree (.seq ⟨some 4, none, (.ofA (.mv (.cst (.v (.bool false)))))⟩
  .done))
 (.seq (.tree (.take ⟨some 5, none, (.ofA (.mv (.tmp 0)))⟩
  (.take ⟨some 6, none, (.ofA (.mv (.tmp 1)))⟩
  (.act true [(⟨some 7, none, (.call (.cst (.fn 60 [])) [(.tmp 5), (.tmp 6)])⟩,
 (.take ⟨some 8, none, (.ofA (.un .not (.tmp 7)))⟩
  (.take ⟨some 9, none, (.ofA (.mv (.tmp 8)))⟩
  (.take ⟨some 10, some (9, true), (.ofA (.mv (.tmp 0)))⟩
  (.take ⟨some 11, some (9, true), (.ofA (.nilc (.tmp 10)))⟩
  (.take ⟨some 12, some (9, true), (.ofA (.faddr 0 (.tmp 11)))⟩
  (.take ⟨some 13, some (9, true), (.ofA (.load none (.tmp 12)))⟩
  (.take ⟨some 14, some (9, true), (.ofA (.mv (.tmp 0)))⟩
  (.take ⟨some 15, some (9, true), (.ofA (.nilc (.tmp 14)))⟩
  (.take ⟨some 16, some (9, true), (.ofA (.faddr 2 (.tmp 15)))⟩
  (.take ⟨some 17, some (9, true), (.ofA (.faddr 4 (.tmp 16)))⟩
  (.take ⟨some 18, some (9, true), (.ofA (.load none (.tmp 17)))⟩
  (.take ⟨some 19, some (9, true), (.ofA (.mv (.tmp 1)))⟩
  (.take ⟨some 20, some (9, true), (.ofA (.isl 1 (.tmp 18) (.tmp 19)))⟩
  (.take ⟨some 21, some (9, true), (.ofA (.load none (.tmp 20)))⟩
  (.act true [(⟨some 22, some (9, true), (.call (.cst (.fn 136 [])) [(.tmp 13), (.tmp 21)])⟩,
 (.take ⟨some 23, none, (.ofA (.pick (.tmp 9) (.tmp 22) (.cst (.v (.bool false)))))⟩
  (.take ⟨some 4, none, (.ofA (.mv (.tmp 23)))⟩
  .done)))]))))))))))))))))]))))
 .ret))
def r69 : List XR := [.tmp 4]
theorem fn69 : FnX Tryz.prog 69 EFF 24 x69 r69 := ⟨_, Tryz.func69, by kernel_rfl, by kernel_rfl, by kernel_rfl, by kernel_rfl⟩
-- almshouse/rule.Total (3 parameters)
def x81 : XC := (.seq (.tree (.seq ⟨some 6, none, (.ofA (.mv (.cst (.v (.int .i64 0)))))⟩
  .done))
 (.seq (.seq (.tree (.seq ⟨some 7, none, (.ofA (.mv (.tmp 0)))⟩
  (.seq ⟨some 8, none, (.ofA (.mv (.tmp 1)))⟩
  (.seq ⟨some 9, none, (.call (.cst (.fn 142 [])) [(.tmp 7), (.tmp 8)])⟩
  (.seq ⟨some 10, none, (.ofA (.bin .neq (.tmp 9) (.cst (.v (.int .i64 0)))))⟩
  (.seq ⟨some 11, none, (.ofA (.mv (.tmp 10)))⟩
  (.seq ⟨some 12, some (11, false), (.ofA (.mv (.tmp 2)))⟩
  (.seq ⟨some 13, some (11, false), (.call (.cst (.fn 146 [])) [(.tmp 12)])⟩
  (.seq ⟨some 14, some (11, false), (.ofA (.un .not (.tmp 13)))⟩
  (.seq ⟨some 15, none, (.ofA (.pick (.tmp 11) (.cst (.v (.bool true))) (.tmp 14)))⟩
  .done))))))))))
 (.cond (.tmp 15)
 (.seq (.tree (.seq ⟨some 6, none, (.ofA (.mv (.cst (.v (.int .i64 0)))))⟩
  .done))
 .ret)
 .skip))
 (.seq (.tree (.seq ⟨some 16, none, (.ofA (.mv (.tmp 0)))⟩
  (.seq ⟨some 17, none, (.ofA (.mv (.tmp 2)))⟩
  (.seq ⟨some 18, none, (.call (.cst (.fn 147 [])) [(.tmp 16), (.tmp 17)])⟩
  (.seq ⟨some 19, none, (.ofA (.mv (.tmp 1)))⟩
  (.seq ⟨some 20, none, (.ofA (.bin .add (.tmp 18) (.tmp 19)))⟩
  (.seq ⟨some 6, none, (.ofA (.mv (.tmp 20)))⟩
  .done)))))))
 .ret)))
def r81 : List XR := [.tmp 6]
theorem fn81 : FnX Tryz.prog 81 EFF 21 x81 r81 := ⟨_, Tryz.func81, by kernel_rfl, by kernel_rfl, by kernel_rfl, by kernel_rfl⟩
-- (*almshouse/power.Power).Gone (1 parameters)
def x99 : XC := (.seq (.tree (.seq ⟨some 2, none, (.ofA (.mv (.cst (.v (.bool false)))))⟩
  .done))
 (.seq (.tree (.seq ⟨some 3, none, (.ofA (.mv (.tmp 0)))⟩
  (.seq ⟨some 4, none, (.ofA (.eqn false 1 (.tmp 3) (.cst (.v (.pointer none)))))⟩
  (.seq ⟨some 5, none, (.ofA (.mv (.tmp 4)))⟩
  (.seq ⟨some 6, some (5, false), (.ofA (.mv (.tmp 0)))⟩
  (.seq ⟨some 7, some (5, false), (.ofA (.nilc (.tmp 6)))⟩
  (.seq ⟨some 8, some (5, false), (.ofA (.faddr 1 (.tmp 7)))⟩
  (.seq ⟨some 9, some (5, false), (.call (.cst (.fn 156 [])) [(.tmp 8)])⟩
  (.seq ⟨some 10, none, (.ofA (.pick (.tmp 5) (.cst (.v (.bool true))) (.tmp 9)))⟩
  (.seq ⟨some 2, none, (.ofA (.mv (.tmp 10)))⟩
  .done))))))))))
 .ret))
def r99 : List XR := [.tmp 2]
theorem fn99 : FnX Tryz.prog 99 EFF 11 x99 r99 := ⟨_, Tryz.func99, by kernel_rfl, by kernel_rfl, by kernel_rfl, by kernel_rfl⟩
-- almshouse/power.New (1 parameters)
def x114 : XC := (.seq (.tree (.seq ⟨some 2, none, (.ofA (.mv (.cst (.v (.pointer none)))))⟩
  .done))
 (.seq (.tree (.seq ⟨some 4, none, (.build [(.v (.int .i64 0)), (.v (.int .u32 0)), (.v (.int .i64 0))] [])⟩
  (.seq ⟨some 5, none, (.box (.tmp 4))⟩
  (.seq ⟨some 3, none, (.ofA (.mv (.tmp 5)))⟩
  .done))))
 (.seq (.tree (.seq ⟨some 6, none, (.ofA (.mv (.tmp 3)))⟩
  (.seq ⟨some 7, none, (.ofA (.nilc (.tmp 6)))⟩
  (.seq ⟨some 8, none, (.ofA (.faddr 0 (.tmp 7)))⟩
  (.seq ⟨some 9, none, (.ofA (.mv (.tmp 0)))⟩
  (.seq ⟨some 10, none, (.call (.cst (.fn 138 [])) [(.tmp 8), (.tmp 9)])⟩
  .done))))))
 (.seq (.tree (.seq ⟨some 11, none, (.ofA (.mv (.tmp 3)))⟩
  (.seq ⟨some 2, none, (.ofA (.mv (.tmp 11)))⟩
  .done)))
 .ret))))
def r114 : List XR := [.tmp 2]
theorem fn114 : FnX Tryz.prog 114 EFF 12 x114 r114 := ⟨_, Tryz.func114, by kernel_rfl, by kernel_rfl, by kernel_rfl, by kernel_rfl⟩
-- almshouse/almshouseref05.Check (1 parameters)
def x115 : XC := (.seq (.tree (.seq ⟨some 1, none, (.box (.tmp 0))⟩
  (.seq ⟨some 2, none, (.ofA (.mv (.cst (.v (.int .i64 0)))))⟩
  .done)))
 (.seq (.seq (.tree (.seq ⟨some 9, none, (.ofA (.load (some 4) (.tmp 1)))⟩
  (.seq ⟨some 10, none, (.ofA (.mv (.cst (.v (.int .i64 0)))))⟩
  .done)))
 (.block 0 (.loop (.seq (.tree (.seq ⟨some 11, none, (.ofA (.bin .lss (.tmp 10) (.cst (.v (.int .i64 4)))))⟩
  .done))
 (.seq (.cond (.tmp 11)
 .skip
 (.exit 0))
 (.seq (.block 1 (.seq (.tree (.seq ⟨some 12, none, (.ofA (.idx 4 1 false (.tmp 9) (.tmp 10)))⟩
  (.seq ⟨some 4, none, (.ofA (.mv (.tmp 12)))⟩
  .done)))
 (.seq (.tree (.seq ⟨some 13, none, (.ofA (.mv (.tmp 4)))⟩
  (.seq ⟨some 14, none, (.ofA (.len (.tmp 13)))⟩
  (.seq ⟨some 15, none, (.ofA (.bin .gtr (.tmp 14) (.cst (.v (.int .i64 64)))))⟩
  .done))))
 (.cond (.tmp 15)
 (.seq (.tree (.seq ⟨some 2, none, (.ofA (.mv (.cst (.v (.int .i64 4)))))⟩
  .done))
 .ret)
 .skip))))
 (.tree (.seq ⟨some 16, none, (.ofA (.bin .add (.tmp 10) (.cst (.v (.int .i64 1)))))⟩
  (.seq ⟨some 10, none, (.ofA (.mv (.tmp 16)))⟩
  .done)))))))))
 (.seq (.seq (.tree (.seq ⟨some 17, none, (.ofA (.load (some 4) (.tmp 1)))⟩
  (.seq ⟨some 18, none, (.ofA (.mv (.cst (.v (.int .i64 0)))))⟩
  .done)))
 (.block 2 (.loop (.seq (.tree (.seq ⟨some 19, none, (.ofA (.bin .lss (.tmp 18) (.cst (.v (.int .i64 4)))))⟩
  .done))
 (.seq (.cond (.tmp 19)
 .skip
 (.exit 2))
 (.seq (.block 3 (.seq (.tree (.seq ⟨some 20, none, (.ofA (.idx 4 1 false (.tmp 17) (.tmp 18)))⟩
  (.seq ⟨some 6, none, (.ofA (.mv (.tmp 20)))⟩
  .done)))
 (.seq (.tree (.seq ⟨some 21, none, (.ofA (.mv (.tmp 6)))⟩
  (.seq ⟨some 22, none, (.ofA (.len (.tmp 21)))⟩
  (.seq ⟨some 23, none, (.ofA (.mv (.cst (.v (.int .i64 0)))))⟩
  .done))))
 (.block 4 (.loop (.seq (.tree (.seq ⟨some 24, none, (.ofA (.bin .lss (.tmp 23) (.tmp 22)))⟩
  .done))
 (.seq (.cond (.tmp 24)
 .skip
 (.exit 4))
 (.seq (.block 5 (.seq (.tree (.seq ⟨some 25, none, (.ofA (.isl 1 (.tmp 21) (.tmp 23)))⟩
  (.seq ⟨some 26, none, (.ofA (.load none (.tmp 25)))⟩
  (.seq ⟨some 8, none, (.ofA (.mv (.tmp 26)))⟩
  .done))))
 (.seq (.tree (.seq ⟨some 27, none, (.ofA (.mv (.tmp 8)))⟩
  (.seq ⟨some 28, none, (.ofA (.bin .lss (.tmp 27) (.cst (.v (.int .i64 1)))))⟩
  .done)))
 (.cond (.tmp 28)
 (.seq (.tree (.seq ⟨some 2, none, (.ofA (.mv (.cst (.v (.int .i64 5)))))⟩
  .done))
 .ret)
 .skip))))
 (.tree (.seq ⟨some 29, none, (.ofA (.bin .add (.tmp 23) (.cst (.v (.int .i64 1)))))⟩
  (.seq ⟨some 23, none, (.ofA (.mv (.tmp 29)))⟩
  .done)))))))))))
 (.tree (.seq ⟨some 30, none, (.ofA (.bin .add (.tmp 18) (.cst (.v (.int .i64 1)))))⟩
  (.seq ⟨some 18, none, (.ofA (.mv (.tmp 30)))⟩
  .done)))))))))
 (.seq (.tree (.seq ⟨some 2, none, (.ofA (.mv (.cst (.v (.int .i64 0)))))⟩
  .done))
 .ret))))
def r115 : List XR := [.tmp 2]
theorem fn115 : FnX Tryz.prog 115 EFF 31 x115 r115 := ⟨_, Tryz.func115, by kernel_rfl, by kernel_rfl, by kernel_rfl, by kernel_rfl⟩
-- almshouse/draws.New (1 parameters)
def x116 : XC := (.seq (.tree (.seq ⟨some 1, none, (.box (.tmp 0))⟩
  (.seq ⟨some 2, none, (.ofA (.mv (.cst (.v (.pointer none)))))⟩
  (.seq ⟨some 3, none, (.ofA (.mv (.cst (.v (.int .i64 0)))))⟩
  .done))))
 (.seq (.seq (.tree (.seq ⟨some 9, none, (.ofA (.load (some 4) (.tmp 1)))⟩
  (.seq ⟨some 10, none, (.ofA (.mv (.cst (.v (.int .i64 0)))))⟩
  .done)))
 (.block 0 (.loop (.seq (.tree (.seq ⟨some 11, none, (.ofA (.bin .lss (.tmp 10) (.cst (.v (.int .i64 4)))))⟩
  .done))
 (.seq (.cond (.tmp 11)
 .skip
 (.exit 0))
 (.seq (.block 1 (.seq (.tree (.seq ⟨some 12, none, (.ofA (.idx 4 1 false (.tmp 9) (.tmp 10)))⟩
  (.seq ⟨some 5, none, (.ofA (.mv (.tmp 12)))⟩
  .done)))
 (.seq (.tree (.seq ⟨some 13, none, (.ofA (.mv (.tmp 5)))⟩
  (.seq ⟨some 14, none, (.ofA (.len (.tmp 13)))⟩
  (.seq ⟨some 15, none, (.ofA (.bin .gtr (.tmp 14) (.cst (.v (.int .i64 64)))))⟩
  .done))))
 (.cond (.tmp 15)
 (.seq (.tree (.seq ⟨some 2, none, (.ofA (.mv (.cst (.v (.pointer none)))))⟩
  (.seq ⟨some 3, none, (.ofA (.mv (.cst (.v (.int .i64 4)))))⟩
  .done)))
 .ret)
 .skip))))
 (.tree (.seq ⟨some 16, none, (.ofA (.bin .add (.tmp 10) (.cst (.v (.int .i64 1)))))⟩
  (.seq ⟨some 10, none, (.ofA (.mv (.tmp 16)))⟩
  .done)))))))))
 (.seq (.tree (.seq ⟨some 17, none, (.build [(.v (.slice none 0 0)), (.v (.int .i64 0)), (.v (.int .i64 0)), (.v (.slice none 0 0)), (.v (.int .i64 0)), (.v (.int .i64 0)), (.v (.slice none 0 0)), (.v (.int .i64 0)), (.v (.int .i64 0)), (.v (.slice none 0 0)), (.v (.int .i64 0)), (.v (.int .i64 0))] [])⟩
  (.seq ⟨some 18, none, (.box (.tmp 17))⟩
  (.seq ⟨some 6, none, (.ofA (.mv (.tmp 18)))⟩
  .done))))
 (.seq (.seq (.tree (.seq ⟨some 19, none, (.ofA (.load (some 4) (.tmp 1)))⟩
  (.seq ⟨some 20, none, (.ofA (.mv (.cst (.v (.int .i64 0)))))⟩
  .done)))
 (.block 2 (.loop (.seq (.tree (.seq ⟨some 21, none, (.ofA (.bin .lss (.tmp 20) (.cst (.v (.int .i64 4)))))⟩
  .done))
 (.seq (.cond (.tmp 21)
 .skip
 (.exit 2))
 (.seq (.block 3 (.seq (.tree (.seq ⟨some 22, none, (.ofA (.mv (.tmp 20)))⟩
  (.seq ⟨some 23, none, (.ofA (.idx 4 1 false (.tmp 19) (.tmp 20)))⟩
  (.seq ⟨some 7, none, (.ofA (.mv (.tmp 22)))⟩
  (.seq ⟨some 8, none, (.ofA (.mv (.tmp 23)))⟩
  .done)))))
 (.seq (.seq (.tree (.seq ⟨some 24, none, (.ofA (.mv (.tmp 8)))⟩
  (.seq ⟨some 25, none, (.ofA (.len (.tmp 24)))⟩
  (.seq ⟨some 26, none, (.ofA (.bin .gtr (.tmp 25) (.cst (.v (.int .i64 0)))))⟩
  (.seq ⟨some 27, none, (.ofA (.mv (.tmp 26)))⟩
  (.seq ⟨some 28, some (27, true), (.ofA (.mv (.tmp 8)))⟩
  (.seq ⟨some 29, some (27, true), (.call (.cst (.fn 165 [])) [(.tmp 28)])⟩
  (.seq ⟨some 30, some (27, true), (.ofA (.bin .lss (.tmp 29) (.cst (.v (.int .i64 1)))))⟩
  (.seq ⟨some 31, none, (.ofA (.pick (.tmp 27) (.tmp 30) (.cst (.v (.bool false)))))⟩
  .done)))))))))
 (.cond (.tmp 31)
 (.seq (.tree (.seq ⟨some 2, none, (.ofA (.mv (.cst (.v (.pointer none)))))⟩
  (.seq ⟨some 3, none, (.ofA (.mv (.cst (.v (.int .i64 5)))))⟩
  .done)))
 .ret)
 .skip))
 (.tree (.take ⟨some 32, none, (.ofA (.mv (.tmp 6)))⟩
  (.take ⟨some 33, none, (.ofA (.mv (.tmp 7)))⟩
  (.take ⟨some 34, none, (.ofA (.mv (.tmp 8)))⟩
  (.take ⟨some 36, none, (.ofA (.nilc (.tmp 32)))⟩
  (.take ⟨some 37, none, (.ofA (.faddr 0 (.tmp 36)))⟩
  (.alt [true] [(⟨some 35, none, (.call (.cst (.fn 55 [])) [(.tmp 34)])⟩,
 (.take ⟨some 38, none, (.ofA (.iarr 4 3 (.tmp 37) (.tmp 33)))⟩
  (.take ⟨some 39, none, (.ofA (.faddr 0 (.tmp 38)))⟩
  (.alt [false] [(⟨none, none, (.store 1 (.tmp 39) (.tmp 35))⟩,
 .done)]))))]))))))))))
 (.tree (.seq ⟨some 40, none, (.ofA (.bin .add (.tmp 20) (.cst (.v (.int .i64 1)))))⟩
  (.seq ⟨some 20, none, (.ofA (.mv (.tmp 40)))⟩
  .done)))))))))
 (.seq (.tree (.seq ⟨some 41, none, (.ofA (.mv (.tmp 6)))⟩
  (.seq ⟨some 2, none, (.ofA (.mv (.tmp 41)))⟩
  (.seq ⟨some 3, none, (.ofA (.mv (.cst (.v (.int .i64 0)))))⟩
  .done))))
 .ret)))))
def r116 : List XR := [.tmp 2, .tmp 3]
theorem fn116 : FnX Tryz.prog 116 EFF 42 x116 r116 := ⟨_, Tryz.func116, by kernel_rfl, by kernel_rfl, by kernel_rfl, by kernel_rfl⟩
-- almshouse/nand.New (4 parameters)
def x117 : XC := (.seq (.tree (.seq ⟨some 4, none, (.box (.tmp 0))⟩
  (.seq ⟨some 8, none, (.ofA (.mv (.cst (.v (.pointer none)))))⟩
  (.seq ⟨some 9, none, (.ofA (.mv (.cst (.v (.int .i64 0)))))⟩
  .done))))
 (.seq (.seq (.tree (.seq ⟨some 15, none, (.ofA (.load (some 4) (.tmp 4)))⟩
  (.seq ⟨some 16, none, (.call (.cst (.fn 166 [])) [(.tmp 15)])⟩
  (.seq ⟨some 10, none, (.ofA (.mv (.tmp 16)))⟩
  .done))))
 (.seq (.tree (.seq ⟨some 17, none, (.ofA (.mv (.tmp 10)))⟩
  (.seq ⟨some 18, none, (.ofA (.bin .neq (.tmp 17) (.cst (.v (.int .i64 0)))))⟩
  .done)))
 (.cond (.tmp 18)
 (.seq (.tree (.seq ⟨some 19, none, (.ofA (.mv (.tmp 10)))⟩
  (.seq ⟨some 8, none, (.ofA (.mv (.cst (.v (.pointer none)))))⟩
  (.seq ⟨some 9, none, (.ofA (.mv (.tmp 19)))⟩
  .done))))
 .ret)
 .skip)))
 (.seq (.seq (.tree (.seq ⟨some 20, none, (.ofA (.mv (.tmp 1)))⟩
  (.seq ⟨some 21, none, (.ofA (.eqn false 1 (.tmp 20) (.cst (.v (.pointer none)))))⟩
  (.seq ⟨some 22, none, (.ofA (.mv (.tmp 21)))⟩
  (.seq ⟨some 23, some (22, false), (.ofA (.mv (.tmp 2)))⟩
  (.seq ⟨some 24, some (22, false), (.ofA (.eqn false 1 (.tmp 23) (.cst (.v (.pointer none)))))⟩
  (.seq ⟨some 25, none, (.ofA (.pick (.tmp 22) (.cst (.v (.bool true))) (.tmp 24)))⟩
  .done)))))))
 (.cond (.tmp 25)
 (.seq (.tree (.seq ⟨some 8, none, (.ofA (.mv (.cst (.v (.pointer none)))))⟩
  (.seq ⟨some 9, none, (.ofA (.mv (.cst (.v (.int .i64 1)))))⟩
  .done)))
 .ret)
 .skip))
 (.seq (.tree (.take ⟨some 26, none, (.ofA (.load (some 4) (.tmp 4)))⟩
  (.take ⟨some 27, none, (.ofA (.mv (.tmp 1)))⟩
  (.take ⟨some 28, none, (.ofA (.mv (.tmp 2)))⟩
  (.take ⟨some 29, none, (.ofA (.load (some 4) (.tmp 4)))⟩
  (.act true [(⟨some 30, none, (.call (.cst (.fn 167 [])) [(.tmp 29)])⟩,
 (.act true [(⟨some 31, none, (.mkSl 4 48 [(.v (.slice none 0 0)), (.v (.int .i64 0)), (.v (.bool false)), (.v (.int .i64 0))] (.tmp 30) (.tmp 30))⟩,
 (.act true [(⟨some 32, none, (.build [(.v (.int .i64 0)), (.v (.int .i64 0)), (.v (.int .i64 0)), (.v (.int .i64 0)), (.v (.pointer none)), (.v (.pointer none)), (.v (.slice none 0 0))] [(0, 4, (.tmp 26)), (4, 1, (.tmp 27)), (5, 1, (.tmp 28)), (6, 1, (.tmp 31))])⟩,
 (.act true [(⟨some 33, none, (.box (.tmp 32))⟩,
 (.take ⟨some 11, none, (.ofA (.mv (.tmp 33)))⟩
  .done))]))]))]))]))))))
 (.seq (.seq (.tree (.seq ⟨some 34, none, (.ofA (.mv (.tmp 11)))⟩
  (.seq ⟨some 35, none, (.ofA (.nilc (.tmp 34)))⟩
  (.seq ⟨some 36, none, (.ofA (.faddr 6 (.tmp 35)))⟩
  (.seq ⟨some 37, none, (.ofA (.load none (.tmp 36)))⟩
  (.seq ⟨some 38, none, (.ofA (.len (.tmp 37)))⟩
  (.seq ⟨some 39, none, (.ofA (.mv (.cst (.v (.int .i64 0)))))⟩
  .done)))))))
 (.block 0 (.loop (.seq (.tree (.seq ⟨some 40, none, (.ofA (.bin .lss (.tmp 39) (.tmp 38)))⟩
  .done))
 (.seq (.cond (.tmp 40)
 .skip
 (.exit 0))
 (.seq (.block 1 (.seq (.tree (.seq ⟨some 41, none, (.ofA (.mv (.tmp 39)))⟩
  (.seq ⟨some 12, none, (.ofA (.mv (.tmp 41)))⟩
  .done)))
 (.tree (.take ⟨some 42, none, (.ofA (.mv (.tmp 11)))⟩
  (.take ⟨some 43, none, (.ofA (.nilc (.tmp 42)))⟩
  (.take ⟨some 44, none, (.ofA (.faddr 6 (.tmp 43)))⟩
  (.take ⟨some 45, none, (.ofA (.load none (.tmp 44)))⟩
  (.take ⟨some 46, none, (.ofA (.mv (.tmp 12)))⟩
  (.take ⟨some 47, none, (.ofA (.faddr 3 (.tmp 4)))⟩
  (.take ⟨some 48, none, (.ofA (.load none (.tmp 47)))⟩
  (.alt [true] [(⟨some 49, none, (.mkSl 3 48 [(.v (.int .i64 0)), (.v (.slice none 0 0)), (.v (.string ⟨#[]⟩))] (.tmp 48) (.tmp 48))⟩,
 (.take ⟨some 50, none, (.ofA (.isl 4 (.tmp 45) (.tmp 46)))⟩
  (.take ⟨some 51, none, (.ofA (.faddr 0 (.tmp 50)))⟩
  (.alt [false] [(⟨none, none, (.store 1 (.tmp 51) (.tmp 49))⟩,
 .done)]))))])))))))))))
 (.tree (.seq ⟨some 52, none, (.ofA (.bin .add (.tmp 39) (.cst (.v (.int .i64 1)))))⟩
  (.seq ⟨some 39, none, (.ofA (.mv (.tmp 52)))⟩
  .done)))))))))
 (.seq (.seq (.tree (.seq ⟨some 53, none, (.ofA (.mv (.tmp 3)))⟩
  (.seq ⟨some 54, none, (.ofA (.len (.tmp 53)))⟩
  (.seq ⟨some 55, none, (.ofA (.mv (.cst (.v (.int .i64 0)))))⟩
  .done))))
 (.block 2 (.loop (.seq (.tree (.seq ⟨some 56, none, (.ofA (.bin .lss (.tmp 55) (.tmp 54)))⟩
  .done))
 (.seq (.cond (.tmp 56)
 .skip
 (.exit 2))
 (.seq (.block 3 (.seq (.tree (.seq ⟨some 57, none, (.ofA (.isl 1 (.tmp 53) (.tmp 55)))⟩
  (.seq ⟨some 58, none, (.ofA (.load none (.tmp 57)))⟩
  (.seq ⟨some 14, none, (.ofA (.mv (.tmp 58)))⟩
  .done))))
 (.seq (.seq (.tree (.seq ⟨some 59, none, (.ofA (.mv (.tmp 14)))⟩
  (.seq ⟨some 60, none, (.ofA (.bin .lss (.tmp 59) (.cst (.v (.int .i64 2)))))⟩
  (.seq ⟨some 61, none, (.ofA (.mv (.tmp 60)))⟩
  (.seq ⟨some 62, some (61, false), (.ofA (.mv (.tmp 14)))⟩
  (.seq ⟨some 63, some (61, false), (.ofA (.mv (.tmp 11)))⟩
  (.seq ⟨some 64, some (61, false), (.ofA (.nilc (.tmp 63)))⟩
  (.seq ⟨some 65, some (61, false), (.ofA (.faddr 6 (.tmp 64)))⟩
  (.seq ⟨some 66, some (61, false), (.ofA (.load none (.tmp 65)))⟩
  (.seq ⟨some 67, some (61, false), (.ofA (.len (.tmp 66)))⟩
  (.seq ⟨some 68, some (61, false), (.ofA (.bin .geq (.tmp 62) (.tmp 67)))⟩
  (.seq ⟨some 69, none, (.ofA (.pick (.tmp 61) (.cst (.v (.bool true))) (.tmp 68)))⟩
  .done))))))))))))
 (.cond (.tmp 69)
 (.seq (.tree (.seq ⟨some 8, none, (.ofA (.mv (.cst (.v (.pointer none)))))⟩
  (.seq ⟨some 9, none, (.ofA (.mv (.cst (.v (.int .i64 5)))))⟩
  .done)))
 .ret)
 .skip))
 (.tree (.seq ⟨some 70, none, (.ofA (.mv (.tmp 11)))⟩
  (.seq ⟨some 71, none, (.ofA (.nilc (.tmp 70)))⟩
  (.seq ⟨some 72, none, (.ofA (.faddr 6 (.tmp 71)))⟩
  (.seq ⟨some 73, none, (.ofA (.load none (.tmp 72)))⟩
  (.seq ⟨some 74, none, (.ofA (.mv (.tmp 14)))⟩
  (.seq ⟨some 75, none, (.ofA (.isl 4 (.tmp 73) (.tmp 74)))⟩
  (.seq ⟨some 76, none, (.ofA (.faddr 2 (.tmp 75)))⟩
  (.seq ⟨none, none, (.store 1 (.tmp 76) (.cst (.v (.bool true))))⟩
  .done))))))))))))
 (.tree (.seq ⟨some 77, none, (.ofA (.bin .add (.tmp 55) (.cst (.v (.int .i64 1)))))⟩
  (.seq ⟨some 55, none, (.ofA (.mv (.tmp 77)))⟩
  .done)))))))))
 (.seq (.tree (.seq ⟨some 78, none, (.ofA (.mv (.tmp 11)))⟩
  (.seq ⟨some 8, none, (.ofA (.mv (.tmp 78)))⟩
  (.seq ⟨some 9, none, (.ofA (.mv (.cst (.v (.int .i64 0)))))⟩
  .done))))
 .ret)))))))
def r117 : List XR := [.tmp 8, .tmp 9]
theorem fn117 : FnX Tryz.prog 117 EFF 79 x117 r117 := ⟨_, Tryz.func117, by kernel_rfl, by kernel_rfl, by kernel_rfl, by kernel_rfl⟩
-- (*almshouse/buffer.Buffer).at (2 parameters)
def x118 : XC := (.seq (.tree (.seq ⟨some 4, none, (.ofA (.mv (.cst (.v (.pointer none)))))⟩
  .done))
 (.seq (.tree (.take ⟨some 5, none, (.ofA (.mv (.tmp 0)))⟩
  (.take ⟨some 6, none, (.ofA (.mv (.tmp 0)))⟩
  (.take ⟨some 7, none, (.ofA (.nilc (.tmp 6)))⟩
  (.take ⟨some 8, none, (.ofA (.faddr 12 (.tmp 7)))⟩
  (.take ⟨some 9, none, (.ofA (.load none (.tmp 8)))⟩
  (.take ⟨some 10, none, (.ofA (.mv (.tmp 1)))⟩
  (.take ⟨some 11, none, (.ofA (.bin .add (.tmp 9) (.tmp 10)))⟩
  (.take ⟨some 12, none, (.ofA (.bin .rem (.tmp 11) (.cst (.v (.int .i64 4)))))⟩
  (.take ⟨some 13, none, (.ofA (.nilc (.tmp 5)))⟩
  (.take ⟨some 14, none, (.ofA (.faddr 0 (.tmp 13)))⟩
  (.take ⟨some 15, none, (.ofA (.iarr 4 3 (.tmp 14) (.tmp 12)))⟩
  (.take ⟨some 4, none, (.ofA (.mv (.tmp 15)))⟩
  .done)))))))))))))
 .ret))
def r118 : List XR := [.tmp 4]
theorem fn118 : FnX Tryz.prog 118 EFF 16 x118 r118 := ⟨_, Tryz.func118, by kernel_rfl, by kernel_rfl, by kernel_rfl, by kernel_rfl⟩
-- (*almshouse/nand.Nand).Read (3 parameters)
def x119 : XC := (.seq (.tree (.seq ⟨some 6, none, (.ofA (.mv (.cst (.v (.slice none 0 0)))))⟩
  (.seq ⟨some 7, none, (.ofA (.mv (.cst (.v (.string ⟨#[]⟩)))))⟩
  (.seq ⟨some 8, none, (.ofA (.mv (.cst (.v (.int .i64 0)))))⟩
  .done))))
 (.seq (.tree (.seq ⟨some 11, none, (.ofA (.mv (.tmp 0)))⟩
  (.seq ⟨some 12, none, (.ofA (.mv (.tmp 1)))⟩
  (.seq ⟨some 13, none, (.call (.cst (.fn 168 [])) [(.tmp 11), (.tmp 12)])⟩
  (.seq ⟨some 9, none, (.ofA (.mv (.tmp 13)))⟩
  .done)))))
 (.seq (.block 0 (.seq (.tree (.seq ⟨some 15, none, (.ofA (.mv (.tmp 0)))⟩
  (.seq ⟨some 16, none, (.ofA (.eqn false 1 (.tmp 15) (.cst (.v (.pointer none)))))⟩
  (.seq ⟨some 14, none, (.ofA (.mv (.tmp 16)))⟩
  .done))))
 (.cond (.tmp 14)
 (.seq (.tree (.seq ⟨some 6, none, (.ofA (.mv (.cst (.v (.slice none 0 0)))))⟩
  (.seq ⟨some 7, none, (.ofA (.mv (.cst (.v (.string ⟨#[]⟩)))))⟩
  (.seq ⟨some 8, none, (.ofA (.mv (.cst (.v (.int .i64 1)))))⟩
  .done))))
 .ret)
 (.seq (.tree (.seq ⟨some 18, none, (.ofA (.mv (.tmp 9)))⟩
  (.seq ⟨some 19, none, (.ofA (.eqn false 1 (.tmp 18) (.cst (.v (.pointer none)))))⟩
  (.seq ⟨some 20, none, (.ofA (.mv (.tmp 19)))⟩
  (.seq ⟨some 21, some (20, false), (.ofA (.mv (.tmp 2)))⟩
  (.seq ⟨some 22, some (20, false), (.ofA (.bin .lss (.tmp 21) (.cst (.v (.int .i64 0)))))⟩
  (.seq ⟨some 23, none, (.ofA (.pick (.tmp 20) (.cst (.v (.bool true))) (.tmp 22)))⟩
  (.seq ⟨some 24, none, (.ofA (.mv (.tmp 23)))⟩
  (.seq ⟨some 25, some (24, false), (.ofA (.mv (.tmp 2)))⟩
  (.seq ⟨some 26, some (24, false), (.ofA (.mv (.tmp 9)))⟩
  (.seq ⟨some 27, some (24, false), (.ofA (.nilc (.tmp 26)))⟩
  (.seq ⟨some 28, some (24, false), (.ofA (.faddr 0 (.tmp 27)))⟩
  (.seq ⟨some 29, some (24, false), (.ofA (.load none (.tmp 28)))⟩
  (.seq ⟨some 30, some (24, false), (.ofA (.len (.tmp 29)))⟩
  (.seq ⟨some 31, some (24, false), (.ofA (.bin .geq (.tmp 25) (.tmp 30)))⟩
  (.seq ⟨some 32, none, (.ofA (.pick (.tmp 24) (.cst (.v (.bool true))) (.tmp 31)))⟩
  (.seq ⟨some 17, none, (.ofA (.mv (.tmp 32)))⟩
  .done)))))))))))))))))
 (.cond (.tmp 17)
 (.seq (.tree (.seq ⟨some 6, none, (.ofA (.mv (.cst (.v (.slice none 0 0)))))⟩
  (.seq ⟨some 7, none, (.ofA (.mv (.cst (.v (.string ⟨#[]⟩)))))⟩
  (.seq ⟨some 8, none, (.ofA (.mv (.cst (.v (.int .i64 5)))))⟩
  .done))))
 .ret)
 (.seq (.tree (.seq ⟨some 34, none, (.ofA (.mv (.tmp 0)))⟩
  (.seq ⟨some 35, none, (.ofA (.nilc (.tmp 34)))⟩
  (.seq ⟨some 36, none, (.ofA (.faddr 4 (.tmp 35)))⟩
  (.seq ⟨some 37, none, (.ofA (.load none (.tmp 36)))⟩
  (.seq ⟨some 38, none, (.call (.cst (.fn 99 [])) [(.tmp 37)])⟩
  (.seq ⟨some 33, none, (.ofA (.mv (.tmp 38)))⟩
  .done)))))))
 (.cond (.tmp 33)
 (.seq (.tree (.seq ⟨some 6, none, (.ofA (.mv (.cst (.v (.slice none 0 0)))))⟩
  (.seq ⟨some 7, none, (.ofA (.mv (.cst (.v (.string ⟨#[]⟩)))))⟩
  (.seq ⟨some 8, none, (.ofA (.mv (.cst (.v (.int .i64 12)))))⟩
  .done))))
 .ret)
 .skip)))))))
 (.seq (.seq (.tree (.seq ⟨some 39, none, (.ofA (.mv (.tmp 9)))⟩
  (.seq ⟨some 40, none, (.ofA (.nilc (.tmp 39)))⟩
  (.seq ⟨some 41, none, (.ofA (.faddr 0 (.tmp 40)))⟩
  (.seq ⟨some 42, none, (.ofA (.load none (.tmp 41)))⟩
  (.seq ⟨some 43, none, (.ofA (.mv (.tmp 2)))⟩
  (.seq ⟨some 44, none, (.ofA (.isl 3 (.tmp 42) (.tmp 43)))⟩
  (.seq ⟨some 45, none, (.ofA (.load (some 3) (.tmp 44)))⟩
  (.seq ⟨some 10, none, (.alloc [(.v (.int .i64 0)), (.v (.slice none 0 0)), (.v (.string ⟨#[]⟩))])⟩
  (.seq ⟨none, none, (.store 3 (.tmp 10) (.tmp 45))⟩
  .done))))))))))
 (.seq (.tree (.seq ⟨some 46, none, (.ofA (.faddr 0 (.tmp 10)))⟩
  (.seq ⟨some 47, none, (.ofA (.load none (.tmp 46)))⟩
  .done)))
 (.block 1 (.seq (.tree (.seq ⟨some 49, none, (.ofA (.bin .eql (.tmp 47) (.cst (.v (.int .i64 1)))))⟩
  (.seq ⟨some 48, none, (.ofA (.mv (.tmp 49)))⟩
  .done)))
 (.cond (.tmp 48)
 (.seq (.tree (.take ⟨some 50, none, (.ofA (.faddr 1 (.tmp 10)))⟩
  (.take ⟨some 51, none, (.ofA (.load none (.tmp 50)))⟩
  (.take ⟨some 53, none, (.ofA (.faddr 2 (.tmp 10)))⟩
  (.take ⟨some 54, none, (.ofA (.load none (.tmp 53)))⟩
  (.act true [(⟨some 52, none, (.call (.cst (.fn 169 [])) [(.tmp 51)])⟩,
 (.take ⟨some 6, none, (.ofA (.mv (.tmp 52)))⟩
  (.take ⟨some 7, none, (.ofA (.mv (.tmp 54)))⟩
  (.take ⟨some 8, none, (.ofA (.mv (.cst (.v (.int .i64 0)))))⟩
  .done))))]))))))
 .ret)
 (.seq (.tree (.seq ⟨some 56, none, (.ofA (.bin .eql (.tmp 47) (.cst (.v (.int .i64 2)))))⟩
  (.seq ⟨some 55, none, (.ofA (.mv (.tmp 56)))⟩
  .done)))
 (.cond (.tmp 55)
 (.seq (.tree (.seq ⟨some 6, none, (.ofA (.mv (.cst (.v (.slice none 0 0)))))⟩
  (.seq ⟨some 7, none, (.ofA (.mv (.cst (.v (.string ⟨#[]⟩)))))⟩
  (.seq ⟨some 8, none, (.ofA (.mv (.cst (.v (.int .i64 11)))))⟩
  .done))))
 .ret)
 .skip)))))))
 (.seq (.tree (.seq ⟨some 6, none, (.ofA (.mv (.cst (.v (.slice none 0 0)))))⟩
  (.seq ⟨some 7, none, (.ofA (.mv (.cst (.v (.string ⟨#[]⟩)))))⟩
  (.seq ⟨some 8, none, (.ofA (.mv (.cst (.v (.int .i64 6)))))⟩
  .done))))
 .ret)))))
def r119 : List XR := [.tmp 6, .tmp 7, .tmp 8]
theorem fn119 : FnX Tryz.prog 119 EFF 57 x119 r119 := ⟨_, Tryz.func119, by kernel_rfl, by kernel_rfl, by kernel_rfl, by kernel_rfl⟩
-- almshouse/tag.Parse (1 parameters)
def x120 : XC := (.seq (.tree (.seq ⟨some 2, none, (.alloc [(.v (.int .i64 0)), (.v (.int .i64 0)), (.v (.int .i64 0)), (.v (.int .i64 0)), (.v (.int .i64 0)), (.v (.bool false))])⟩
  (.seq ⟨some 3, none, (.ofA (.mv (.cst (.v (.int .i64 0)))))⟩
  .done)))
 (.seq (.tree (.seq ⟨some 9, none, (.ofA (.mv (.tmp 0)))⟩
  (.seq ⟨some 10, none, (.call (.cst (.fn 170 [])) [(.tmp 9), (.cst (.v (.int .i64 84)))])⟩
  (.seq ⟨some 8, none, (.ofA (.mv (.tmp 10)))⟩
  (.seq ⟨some 11, none, (.ofA (.extract 0 (.tmp 8)))⟩
  (.seq ⟨some 12, none, (.ofA (.extract 1 (.tmp 8)))⟩
  (.seq ⟨some 4, none, (.ofA (.mv (.tmp 11)))⟩
  (.seq ⟨some 5, none, (.ofA (.mv (.tmp 12)))⟩
  .done))))))))
 (.seq (.seq (.tree (.seq ⟨some 13, none, (.ofA (.mv (.tmp 5)))⟩
  (.seq ⟨some 14, none, (.ofA (.bin .neq (.tmp 13) (.cst (.v (.int .i64 0)))))⟩
  .done)))
 (.cond (.tmp 14)
 (.seq (.tree (.seq ⟨some 15, none, (.build [(.v (.int .i64 0)), (.v (.int .i64 0)), (.v (.int .i64 0)), (.v (.int .i64 0)), (.v (.int .i64 0)), (.v (.bool false))] [])⟩
  (.seq ⟨some 16, none, (.ofA (.mv (.tmp 5)))⟩
  (.seq ⟨none, none, (.store 6 (.tmp 2) (.tmp 15))⟩
  (.seq ⟨some 3, none, (.ofA (.mv (.tmp 16)))⟩
  .done)))))
 .ret)
 .skip))
 (.seq (.tree (.seq ⟨some 17, none, (.ofA (.mv (.tmp 4)))⟩
  (.seq ⟨some 18, none, (.call (.cst (.fn 171 [])) [(.tmp 17)])⟩
  (.seq ⟨some 6, none, (.ofA (.mv (.tmp 18)))⟩
  .done))))
 (.seq (.tree (.seq ⟨some 7, none, (.alloc [(.v (.int .i64 0)), (.v (.int .i64 0)), (.v (.int .i64 0)), (.v (.int .i64 0)), (.v (.int .i64 0)), (.v (.bool false))])⟩
  .done))
 (.seq (.tree (.seq ⟨some 19, none, (.ofA (.mv (.tmp 6)))⟩
  (.seq ⟨some 20, none, (.call (.cst (.fn 172 [])) [(.tmp 19), (.cst (.v (.int .i64 1)))])⟩
  (.seq ⟨some 21, none, (.ofA (.mv (.tmp 6)))⟩
  (.seq ⟨some 22, none, (.call (.cst (.fn 172 [])) [(.tmp 21), (.cst (.v (.int .i64 4)))])⟩
  (.seq ⟨some 23, none, (.ofA (.faddr 0 (.tmp 7)))⟩
  (.seq ⟨none, none, (.store 1 (.tmp 23) (.tmp 20))⟩
  (.seq ⟨some 24, none, (.ofA (.faddr 1 (.tmp 7)))⟩
  (.seq ⟨none, none, (.store 1 (.tmp 24) (.tmp 22))⟩
  .done)))))))))
 (.seq (.tree (.seq ⟨some 25, none, (.ofA (.mv (.tmp 6)))⟩
  (.seq ⟨some 26, none, (.call (.cst (.fn 172 [])) [(.tmp 25), (.cst (.v (.int .i64 1)))])⟩
  (.seq ⟨some 27, none, (.ofA (.mv (.tmp 6)))⟩
  (.seq ⟨some 28, none, (.call (.cst (.fn 172 [])) [(.tmp 27), (.cst (.v (.int .i64 4)))])⟩
  (.seq ⟨some 29, none, (.ofA (.faddr 2 (.tmp 7)))⟩
  (.seq ⟨none, none, (.store 1 (.tmp 29) (.tmp 26))⟩
  (.seq ⟨some 30, none, (.ofA (.faddr 3 (.tmp 7)))⟩
  (.seq ⟨none, none, (.store 1 (.tmp 30) (.tmp 28))⟩
  .done)))))))))
 (.seq (.tree (.seq ⟨some 31, none, (.ofA (.mv (.tmp 6)))⟩
  (.seq ⟨some 32, none, (.call (.cst (.fn 172 [])) [(.tmp 31), (.cst (.v (.int .i64 1)))])⟩
  (.seq ⟨some 33, none, (.ofA (.mv (.tmp 6)))⟩
  (.seq ⟨some 34, none, (.call (.cst (.fn 173 [])) [(.tmp 33)])⟩
  (.seq ⟨some 35, none, (.ofA (.faddr 4 (.tmp 7)))⟩
  (.seq ⟨none, none, (.store 1 (.tmp 35) (.tmp 32))⟩
  (.seq ⟨some 36, none, (.ofA (.faddr 5 (.tmp 7)))⟩
  (.seq ⟨none, none, (.store 1 (.tmp 36) (.tmp 34))⟩
  .done)))))))))
 (.seq (.seq (.tree (.seq ⟨some 37, none, (.ofA (.mv (.tmp 6)))⟩
  (.seq ⟨some 38, none, (.call (.cst (.fn 174 [])) [(.tmp 37)])⟩
  (.seq ⟨some 39, none, (.ofA (.bin .neq (.tmp 38) (.cst (.v (.int .i64 0)))))⟩
  (.seq ⟨some 40, none, (.ofA (.mv (.tmp 39)))⟩
  (.seq ⟨some 41, some (40, false), (.ofA (.load (some 6) (.tmp 7)))⟩
  (.seq ⟨some 42, some (40, false), (.call (.cst (.fn 175 [])) [(.tmp 41)])⟩
  (.seq ⟨some 43, some (40, false), (.ofA (.un .not (.tmp 42)))⟩
  (.seq ⟨some 44, none, (.ofA (.pick (.tmp 40) (.cst (.v (.bool true))) (.tmp 43)))⟩
  .done)))))))))
 (.cond (.tmp 44)
 (.seq (.tree (.seq ⟨some 45, none, (.build [(.v (.int .i64 0)), (.v (.int .i64 0)), (.v (.int .i64 0)), (.v (.int .i64 0)), (.v (.int .i64 0)), (.v (.bool false))] [])⟩
  (.seq ⟨none, none, (.store 6 (.tmp 2) (.tmp 45))⟩
  (.seq ⟨some 3, none, (.ofA (.mv (.cst (.v (.int .i64 2)))))⟩
  .done))))
 .ret)
 .skip))
 (.seq (.tree (.seq ⟨some 46, none, (.ofA (.load (some 6) (.tmp 7)))⟩
  (.seq ⟨none, none, (.store 6 (.tmp 2) (.tmp 46))⟩
  (.seq ⟨some 3, none, (.ofA (.mv (.cst (.v (.int .i64 0)))))⟩
  .done))))
 .ret))))))))))
def r120 : List XR := [.cell 2 (some 6), .tmp 3]
theorem fn120 : FnX Tryz.prog 120 EFF 47 x120 r120 := ⟨_, Tryz.func120, by kernel_rfl, by kernel_rfl, by kernel_rfl, by kernel_rfl⟩
-- (*almshouse/buffer.Buffer).Full (1 parameters)
def x121 : XC := (.seq (.tree (.seq ⟨some 2, none, (.ofA (.mv (.cst (.v (.bool false)))))⟩
  .done))
 (.seq (.tree (.seq ⟨some 3, none, (.ofA (.mv (.tmp 0)))⟩
  (.seq ⟨some 4, none, (.ofA (.eqn false 1 (.tmp 3) (.cst (.v (.pointer none)))))⟩
  (.seq ⟨some 5, none, (.ofA (.mv (.tmp 4)))⟩
  (.seq ⟨some 6, some (5, false), (.ofA (.mv (.tmp 0)))⟩
  (.seq ⟨some 7, some (5, false), (.ofA (.nilc (.tmp 6)))⟩
  (.seq ⟨some 8, some (5, false), (.ofA (.faddr 13 (.tmp 7)))⟩
  (.seq ⟨some 9, some (5, false), (.ofA (.load none (.tmp 8)))⟩
  (.seq ⟨some 10, some (5, false), (.ofA (.bin .eql (.tmp 9) (.cst (.v (.int .i64 4)))))⟩
  (.seq ⟨some 11, none, (.ofA (.pick (.tmp 5) (.cst (.v (.bool true))) (.tmp 10)))⟩
  (.seq ⟨some 2, none, (.ofA (.mv (.tmp 11)))⟩
  .done)))))))))))
 .ret))
def r121 : List XR := [.tmp 2]
theorem fn121 : FnX Tryz.prog 121 EFF 12 x121 r121 := ⟨_, Tryz.func121, by kernel_rfl, by kernel_rfl, by kernel_rfl, by kernel_rfl⟩
-- (*almshouse/buffer.Buffer).Put (2 parameters)
def x122 : XC := (.seq (.tree (.seq ⟨some 3, none, (.box (.tmp 1))⟩
  (.seq ⟨some 4, none, (.ofA (.mv (.cst (.v (.int .i64 0)))))⟩
  .done)))
 (.seq (.seq (.tree (.seq ⟨some 6, none, (.ofA (.mv (.tmp 0)))⟩
  (.seq ⟨some 7, none, (.ofA (.eqn false 1 (.tmp 6) (.cst (.v (.pointer none)))))⟩
  .done)))
 (.cond (.tmp 7)
 (.seq (.tree (.seq ⟨some 4, none, (.ofA (.mv (.cst (.v (.int .i64 1)))))⟩
  .done))
 .ret)
 .skip))
 (.seq (.seq (.tree (.seq ⟨some 8, none, (.ofA (.load (some 3) (.tmp 3)))⟩
  (.seq ⟨some 9, none, (.call (.cst (.fn 176 [])) [(.tmp 8)])⟩
  (.seq ⟨some 5, none, (.ofA (.mv (.tmp 9)))⟩
  .done))))
 (.seq (.tree (.seq ⟨some 10, none, (.ofA (.mv (.tmp 5)))⟩
  (.seq ⟨some 11, none, (.ofA (.bin .neq (.tmp 10) (.cst (.v (.int .i64 0)))))⟩
  .done)))
 (.cond (.tmp 11)
 (.seq (.tree (.seq ⟨some 12, none, (.ofA (.mv (.tmp 5)))⟩
  (.seq ⟨some 4, none, (.ofA (.mv (.tmp 12)))⟩
  .done)))
 .ret)
 .skip)))
 (.seq (.seq (.tree (.seq ⟨some 13, none, (.ofA (.mv (.tmp 0)))⟩
  (.seq ⟨some 14, none, (.call (.cst (.fn 121 [])) [(.tmp 13)])⟩
  .done)))
 (.cond (.tmp 14)
 (.seq (.tree (.seq ⟨some 4, none, (.ofA (.mv (.cst (.v (.int .i64 8)))))⟩
  .done))
 .ret)
 .skip))
 (.seq (.tree (.take ⟨some 15, none, (.ofA (.mv (.tmp 0)))⟩
  (.take ⟨some 16, none, (.ofA (.mv (.tmp 0)))⟩
  (.take ⟨some 17, none, (.ofA (.nilc (.tmp 16)))⟩
  (.take ⟨some 18, none, (.ofA (.faddr 13 (.tmp 17)))⟩
  (.take ⟨some 19, none, (.ofA (.load none (.tmp 18)))⟩
  (.take ⟨some 21, none, (.ofA (.load (some 3) (.tmp 3)))⟩
  (.alt [true] [(⟨some 20, none, (.call (.cst (.fn 118 [])) [(.tmp 15), (.tmp 19)])⟩,
 (.take ⟨some 22, none, (.ofA (.nilc (.tmp 20)))⟩
  (.alt [false] [(⟨none, none, (.store 3 (.tmp 22) (.tmp 21))⟩,
 .done)])))]))))))))
 (.seq (.tree (.seq ⟨some 23, none, (.ofA (.mv (.tmp 0)))⟩
  (.seq ⟨some 24, none, (.ofA (.nilc (.tmp 23)))⟩
  (.seq ⟨some 25, none, (.ofA (.faddr 13 (.tmp 24)))⟩
  (.seq ⟨some 26, none, (.ofA (.load none (.tmp 25)))⟩
  (.seq ⟨some 27, none, (.ofA (.bin .add (.tmp 26) (.cst (.v (.int .i64 1)))))⟩
  (.seq ⟨some 28, none, (.ofA (.nilc (.tmp 23)))⟩
  (.seq ⟨some 29, none, (.ofA (.faddr 13 (.tmp 28)))⟩
  (.seq ⟨none, none, (.store 1 (.tmp 29) (.tmp 27))⟩
  .done)))))))))
 (.seq (.tree (.seq ⟨some 4, none, (.ofA (.mv (.cst (.v (.int .i64 0)))))⟩
  .done))
 .ret)))))))
def r122 : List XR := [.tmp 4]
theorem fn122 : FnX Tryz.prog 122 EFF 30 x122 r122 := ⟨_, Tryz.func122, by kernel_rfl, by kernel_rfl, by kernel_rfl, by kernel_rfl⟩
-- (*almshouse/buffer.Buffer).First (1 parameters)
def x123 : XC := (.seq (.tree (.seq ⟨some 2, none, (.alloc [(.v (.int .i64 0)), (.v (.int .i64 0)), (.v (.string ⟨#[]⟩))])⟩
  (.seq ⟨some 3, none, (.ofA (.mv (.cst (.v (.bool false)))))⟩
  .done)))
 (.seq (.seq (.tree (.seq ⟨some 4, none, (.ofA (.mv (.tmp 0)))⟩
  (.seq ⟨some 5, none, (.call (.cst (.fn 58 [])) [(.tmp 4)])⟩
  (.seq ⟨some 6, none, (.ofA (.bin .eql (.tmp 5) (.cst (.v (.int .i64 0)))))⟩
  .done))))
 (.cond (.tmp 6)
 (.seq (.tree (.seq ⟨some 7, none, (.build [(.v (.int .i64 0)), (.v (.int .i64 0)), (.v (.string ⟨#[]⟩))] [])⟩
  (.seq ⟨none, none, (.store 3 (.tmp 2) (.tmp 7))⟩
  (.seq ⟨some 3, none, (.ofA (.mv (.cst (.v (.bool false)))))⟩
  .done))))
 .ret)
 .skip))
 (.seq (.tree (.seq ⟨some 8, none, (.ofA (.mv (.tmp 0)))⟩
  (.seq ⟨some 9, none, (.call (.cst (.fn 118 [])) [(.tmp 8), (.cst (.v (.int .i64 0)))])⟩
  (.seq ⟨some 10, none, (.ofA (.nilc (.tmp 9)))⟩
  (.seq ⟨some 11, none, (.ofA (.load (some 3) (.tmp 10)))⟩
  (.seq ⟨none, none, (.store 3 (.tmp 2) (.tmp 11))⟩
  (.seq ⟨some 3, none, (.ofA (.mv (.cst (.v (.bool true)))))⟩
  .done)))))))
 .ret)))
def r123 : List XR := [.cell 2 (some 3), .tmp 3]
theorem fn123 : FnX Tryz.prog 123 EFF 12 x123 r123 := ⟨_, Tryz.func123, by kernel_rfl, by kernel_rfl, by kernel_rfl, by kernel_rfl⟩
-- (*almshouse/store.Store).put (2 parameters)
def x124 : XC := (.seq (.tree (.seq ⟨some 3, none, (.box (.tmp 1))⟩
  (.seq ⟨some 4, none, (.ofA (.mv (.cst (.v (.int .i64 0)))))⟩
  .done)))
 (.block 0 (.loop (.block 1 (.seq (.seq (.tree (.seq ⟨some 11, none, (.ofA (.mv (.tmp 0)))⟩
  (.seq ⟨some 12, none, (.call (.cst (.fn 177 [])) [(.tmp 11)])⟩
  (.seq ⟨some 5, none, (.ofA (.mv (.tmp 12)))⟩
  .done))))
 (.seq (.tree (.seq ⟨some 13, none, (.ofA (.mv (.tmp 5)))⟩
  (.seq ⟨some 14, none, (.ofA (.bin .neq (.tmp 13) (.cst (.v (.int .i64 0)))))⟩
  .done)))
 (.cond (.tmp 14)
 (.seq (.tree (.seq ⟨some 15, none, (.ofA (.mv (.tmp 5)))⟩
  (.seq ⟨some 4, none, (.ofA (.mv (.tmp 15)))⟩
  .done)))
 .ret)
 .skip)))
 (.seq (.tree (.take ⟨some 17, none, (.ofA (.mv (.tmp 0)))⟩
  (.take ⟨some 18, none, (.ofA (.nilc (.tmp 17)))⟩
  (.take ⟨some 19, none, (.ofA (.faddr 1 (.tmp 18)))⟩
  (.take ⟨some 20, none, (.ofA (.load none (.tmp 19)))⟩
  (.take ⟨some 21, none, (.ofA (.mv (.tmp 0)))⟩
  (.take ⟨some 22, none, (.ofA (.nilc (.tmp 21)))⟩
  (.take ⟨some 23, none, (.ofA (.faddr 2 (.tmp 22)))⟩
  (.take ⟨some 24, none, (.ofA (.faddr 1 (.tmp 23)))⟩
  (.take ⟨some 25, none, (.ofA (.load none (.tmp 24)))⟩
  (.take ⟨some 26, none, (.ofA (.faddr 0 (.tmp 3)))⟩
  (.take ⟨some 27, none, (.ofA (.load none (.tmp 26)))⟩
  (.take ⟨some 28, none, (.ofA (.mv (.tmp 0)))⟩
  (.take ⟨some 29, none, (.ofA (.nilc (.tmp 28)))⟩
  (.take ⟨some 30, none, (.ofA (.faddr 9 (.tmp 29)))⟩
  (.take ⟨some 31, none, (.ofA (.load none (.tmp 30)))⟩
  (.take ⟨some 32, none, (.ofA (.faddr 1 (.tmp 3)))⟩
  (.take ⟨some 33, none, (.ofA (.load none (.tmp 32)))⟩
  (.act true [(⟨some 34, none, (.build [(.v (.int .i64 0)), (.v (.int .i64 0)), (.v (.int .i64 0)), (.v (.int .i64 0)), (.v (.int .i64 0)), (.v (.bool false))] [(0, 1, (.tmp 20)), (1, 1, (.tmp 25)), (2, 1, (.tmp 27)), (3, 1, (.tmp 31)), (4, 1, (.tmp 33))])⟩,
 (.act true [(⟨some 35, none, (.call (.cst (.fn 178 [])) [(.tmp 34)])⟩,
 (.take ⟨some 16, none, (.ofA (.mv (.tmp 35)))⟩
  (.take ⟨some 36, none, (.ofA (.extract 0 (.tmp 16)))⟩
  (.take ⟨some 37, none, (.ofA (.extract 1 (.tmp 16)))⟩
  (.take ⟨some 6, none, (.ofA (.mv (.tmp 36)))⟩
  (.take ⟨some 7, none, (.ofA (.mv (.tmp 37)))⟩
  .done))))))]))])))))))))))))))))))
 (.seq (.seq (.tree (.seq ⟨some 38, none, (.ofA (.mv (.tmp 7)))⟩
  (.seq ⟨some 39, none, (.ofA (.bin .neq (.tmp 38) (.cst (.v (.int .i64 0)))))⟩
  .done)))
 (.cond (.tmp 39)
 (.seq (.tree (.seq ⟨some 40, none, (.ofA (.mv (.tmp 7)))⟩
  (.seq ⟨some 4, none, (.ofA (.mv (.tmp 40)))⟩
  .done)))
 .ret)
 .skip))
 (.seq (.tree (.seq ⟨some 41, none, (.ofA (.mv (.tmp 0)))⟩
  (.seq ⟨some 42, none, (.ofA (.mv (.tmp 0)))⟩
  (.seq ⟨some 43, none, (.ofA (.nilc (.tmp 42)))⟩
  (.seq ⟨some 44, none, (.ofA (.faddr 10 (.tmp 43)))⟩
  (.seq ⟨some 45, none, (.ofA (.load none (.tmp 44)))⟩
  (.seq ⟨some 46, none, (.call (.cst (.fn 61 [])) [(.tmp 41), (.tmp 45)])⟩
  (.seq ⟨some 8, none, (.ofA (.mv (.tmp 46)))⟩
  .done))))))))
 (.seq (.tree (.take ⟨some 47, none, (.ofA (.mv (.tmp 0)))⟩
  (.take ⟨some 48, none, (.ofA (.nilc (.tmp 47)))⟩
  (.take ⟨some 49, none, (.ofA (.faddr 0 (.tmp 48)))⟩
  (.take ⟨some 50, none, (.ofA (.load none (.tmp 49)))⟩
  (.take ⟨some 51, none, (.ofA (.mv (.tmp 0)))⟩
  (.take ⟨some 52, none, (.ofA (.nilc (.tmp 51)))⟩
  (.take ⟨some 53, none, (.ofA (.faddr 1 (.tmp 52)))⟩
  (.take ⟨some 54, none, (.ofA (.load none (.tmp 53)))⟩
  (.take ⟨some 55, none, (.ofA (.mv (.tmp 0)))⟩
  (.take ⟨some 56, none, (.ofA (.nilc (.tmp 55)))⟩
  (.take ⟨some 57, none, (.ofA (.faddr 2 (.tmp 56)))⟩
  (.take ⟨some 58, none, (.ofA (.faddr 4 (.tmp 57)))⟩
  (.take ⟨some 59, none, (.ofA (.load none (.tmp 58)))⟩
  (.take ⟨some 60, none, (.ofA (.mv (.tmp 0)))⟩
  (.take ⟨some 61, none, (.ofA (.nilc (.tmp 60)))⟩
  (.take ⟨some 62, none, (.ofA (.faddr 10 (.tmp 61)))⟩
  (.take ⟨some 63, none, (.ofA (.load none (.tmp 62)))⟩
  (.take ⟨some 64, none, (.ofA (.isl 1 (.tmp 59) (.tmp 63)))⟩
  (.take ⟨some 65, none, (.ofA (.load none (.tmp 64)))⟩
  (.take ⟨some 66, none, (.ofA (.mv (.tmp 8)))⟩
  (.take ⟨some 67, none, (.ofA (.mv (.tmp 6)))⟩
  (.take ⟨some 68, none, (.ofA (.faddr 2 (.tmp 3)))⟩
  (.take ⟨some 69, none, (.ofA (.load none (.tmp 68)))⟩
  (.alt [false] [(⟨some 70, none, (.call (.cst (.fn 179 [])) [(.tmp 50), (.tmp 54), (.tmp 65), (.tmp 66), (.tmp 67), (.tmp 69)])⟩,
 (.take ⟨some 9, none, (.ofA (.mv (.tmp 70)))⟩
  .done))])))))))))))))))))))))))))
 (.seq (.tree (.seq ⟨some 71, none, (.ofA (.mv (.tmp 9)))⟩
  .done))
 (.block 2 (.seq (.tree (.seq ⟨some 74, none, (.ofA (.bin .eql (.tmp 71) (.cst (.v (.int .i64 0)))))⟩
  (.seq ⟨some 73, none, (.ofA (.mv (.tmp 74)))⟩
  .done)))
 (.cond (.tmp 73)
 (.seq (.tree (.seq ⟨some 75, none, (.ofA (.mv (.tmp 0)))⟩
  (.seq ⟨some 76, none, (.ofA (.nilc (.tmp 75)))⟩
  (.seq ⟨some 77, none, (.ofA (.faddr 9 (.tmp 76)))⟩
  (.seq ⟨some 78, none, (.ofA (.load none (.tmp 77)))⟩
  (.seq ⟨some 79, none, (.ofA (.bin .add (.tmp 78) (.cst (.v (.int .i64 1)))))⟩
  (.seq ⟨some 80, none, (.ofA (.nilc (.tmp 75)))⟩
  (.seq ⟨some 81, none, (.ofA (.faddr 9 (.tmp 80)))⟩
  (.seq ⟨none, none, (.store 1 (.tmp 81) (.tmp 79))⟩
  .done)))))))))
 (.seq (.tree (.take ⟨some 82, none, (.ofA (.mv (.tmp 0)))⟩
  (.take ⟨some 83, none, (.ofA (.nilc (.tmp 82)))⟩
  (.take ⟨some 84, none, (.ofA (.faddr 7 (.tmp 83)))⟩
  (.take ⟨some 85, none, (.ofA (.load none (.tmp 84)))⟩
  (.take ⟨some 86, none, (.ofA (.faddr 0 (.tmp 3)))⟩
  (.take ⟨some 87, none, (.ofA (.load none (.tmp 86)))⟩
  (.take ⟨some 88, none, (.ofA (.mv (.tmp 0)))⟩
  (.take ⟨some 89, none, (.ofA (.nilc (.tmp 88)))⟩
  (.take ⟨some 90, none, (.ofA (.faddr 10 (.tmp 89)))⟩
  (.take ⟨some 91, none, (.ofA (.load none (.tmp 90)))⟩
  (.take ⟨some 92, none, (.ofA (.mv (.tmp 8)))⟩
  (.alt [false] [(⟨some 93, none, (.call (.cst (.fn 68 [])) [(.tmp 85), (.tmp 87), (.tmp 91), (.tmp 92)])⟩,
 (.take ⟨some 4, none, (.ofA (.mv (.tmp 93)))⟩
  .done))])))))))))))))
 .ret))
 (.seq (.tree (.seq ⟨some 95, none, (.ofA (.bin .eql (.tmp 71) (.cst (.v (.int .i64 10)))))⟩
  (.seq ⟨some 94, none, (.ofA (.mv (.tmp 95)))⟩
  .done)))
 (.cond (.tmp 94)
 (.seq (.tree (.seq ⟨some 96, none, (.ofA (.mv (.tmp 0)))⟩
  (.seq ⟨some 97, none, (.call (.cst (.fn 180 [])) [(.tmp 96)])⟩
  (.seq ⟨some 10, none, (.ofA (.mv (.tmp 97)))⟩
  .done))))
 (.seq (.tree (.seq ⟨some 98, none, (.ofA (.mv (.tmp 10)))⟩
  (.seq ⟨some 99, none, (.ofA (.bin .neq (.tmp 98) (.cst (.v (.int .i64 0)))))⟩
  .done)))
 (.cond (.tmp 99)
 (.seq (.tree (.seq ⟨some 100, none, (.ofA (.mv (.tmp 10)))⟩
  (.seq ⟨some 4, none, (.ofA (.mv (.tmp 100)))⟩
  .done)))
 .ret)
 .skip)))
 (.seq (.tree (.seq ⟨some 72, none, (.ofA (.mv (.tmp 9)))⟩
  (.seq ⟨some 4, none, (.ofA (.mv (.tmp 72)))⟩
  .done)))
 .ret))))))))))))))))
def r124 : List XR := [.tmp 4]
theorem fn124 : FnX Tryz.prog 124 EFF 101 x124 r124 := ⟨_, Tryz.func124, by kernel_rfl, by kernel_rfl, by kernel_rfl, by kernel_rfl⟩
-- (*almshouse/buffer.Buffer).Drop (1 parameters)
def x125 : XC := (.seq (.tree (.seq ⟨some 2, none, (.ofA (.mv (.cst (.v (.bool false)))))⟩
  .done))
 (.seq (.seq (.tree (.seq ⟨some 3, none, (.ofA (.mv (.tmp 0)))⟩
  (.seq ⟨some 4, none, (.call (.cst (.fn 58 [])) [(.tmp 3)])⟩
  (.seq ⟨some 5, none, (.ofA (.bin .eql (.tmp 4) (.cst (.v (.int .i64 0)))))⟩
  .done))))
 (.cond (.tmp 5)
 (.seq (.tree (.seq ⟨some 2, none, (.ofA (.mv (.cst (.v (.bool false)))))⟩
  .done))
 .ret)
 .skip))
 (.seq (.tree (.seq ⟨some 6, none, (.ofA (.mv (.tmp 0)))⟩
  (.seq ⟨some 7, none, (.call (.cst (.fn 118 [])) [(.tmp 6), (.cst (.v (.int .i64 0)))])⟩
  (.seq ⟨some 8, none, (.build [(.v (.int .i64 0)), (.v (.int .i64 0)), (.v (.string ⟨#[]⟩))] [])⟩
  (.seq ⟨some 9, none, (.ofA (.nilc (.tmp 7)))⟩
  (.seq ⟨none, none, (.store 3 (.tmp 9) (.tmp 8))⟩
  .done))))))
 (.seq (.tree (.seq ⟨some 10, none, (.ofA (.mv (.tmp 0)))⟩
  (.seq ⟨some 11, none, (.ofA (.mv (.tmp 0)))⟩
  (.seq ⟨some 12, none, (.ofA (.nilc (.tmp 11)))⟩
  (.seq ⟨some 13, none, (.ofA (.faddr 12 (.tmp 12)))⟩
  (.seq ⟨some 14, none, (.ofA (.load none (.tmp 13)))⟩
  (.seq ⟨some 15, none, (.ofA (.bin .add (.tmp 14) (.cst (.v (.int .i64 1)))))⟩
  (.seq ⟨some 16, none, (.ofA (.bin .rem (.tmp 15) (.cst (.v (.int .i64 4)))))⟩
  (.seq ⟨some 17, none, (.ofA (.nilc (.tmp 10)))⟩
  (.seq ⟨some 18, none, (.ofA (.faddr 12 (.tmp 17)))⟩
  (.seq ⟨none, none, (.store 1 (.tmp 18) (.tmp 16))⟩
  .done)))))))))))
 (.seq (.tree (.seq ⟨some 19, none, (.ofA (.mv (.tmp 0)))⟩
  (.seq ⟨some 20, none, (.ofA (.nilc (.tmp 19)))⟩
  (.seq ⟨some 21, none, (.ofA (.faddr 13 (.tmp 20)))⟩
  (.seq ⟨some 22, none, (.ofA (.load none (.tmp 21)))⟩
  (.seq ⟨some 23, none, (.ofA (.bin .sub (.tmp 22) (.cst (.v (.int .i64 1)))))⟩
  (.seq ⟨some 24, none, (.ofA (.nilc (.tmp 19)))⟩
  (.seq ⟨some 25, none, (.ofA (.faddr 13 (.tmp 24)))⟩
  (.seq ⟨none, none, (.store 1 (.tmp 25) (.tmp 23))⟩
  .done)))))))))
 (.seq (.tree (.seq ⟨some 2, none, (.ofA (.mv (.cst (.v (.bool true)))))⟩
  .done))
 .ret))))))
def r125 : List XR := [.tmp 2]
theorem fn125 : FnX Tryz.prog 125 EFF 26 x125 r125 := ⟨_, Tryz.func125, by kernel_rfl, by kernel_rfl, by kernel_rfl, by kernel_rfl⟩
-- (*almshouse/nand.Nand).Bad (2 parameters)
def x126 : XC := (.seq (.tree (.seq ⟨some 4, none, (.ofA (.mv (.cst (.v (.bool false)))))⟩
  .done))
 (.seq (.tree (.seq ⟨some 6, none, (.ofA (.mv (.tmp 0)))⟩
  (.seq ⟨some 7, none, (.ofA (.mv (.tmp 1)))⟩
  (.seq ⟨some 8, none, (.call (.cst (.fn 168 [])) [(.tmp 6), (.tmp 7)])⟩
  (.seq ⟨some 5, none, (.ofA (.mv (.tmp 8)))⟩
  .done)))))
 (.seq (.tree (.seq ⟨some 9, none, (.ofA (.mv (.tmp 5)))⟩
  (.seq ⟨some 10, none, (.ofA (.eqn true 1 (.tmp 9) (.cst (.v (.pointer none)))))⟩
  (.seq ⟨some 11, none, (.ofA (.mv (.tmp 10)))⟩
  (.seq ⟨some 12, some (11, true), (.ofA (.mv (.tmp 5)))⟩
  (.seq ⟨some 13, some (11, true), (.ofA (.nilc (.tmp 12)))⟩
  (.seq ⟨some 14, some (11, true), (.ofA (.faddr 2 (.tmp 13)))⟩
  (.seq ⟨some 15, some (11, true), (.ofA (.load none (.tmp 14)))⟩
  (.seq ⟨some 16, none, (.ofA (.pick (.tmp 11) (.tmp 15) (.cst (.v (.bool false)))))⟩
  (.seq ⟨some 4, none, (.ofA (.mv (.tmp 16)))⟩
  .done))))))))))
 .ret)))
def r126 : List XR := [.tmp 4]
theorem fn126 : FnX Tryz.prog 126 EFF 17 x126 r126 := ⟨_, Tryz.func126, by kernel_rfl, by kernel_rfl, by kernel_rfl, by kernel_rfl⟩
-- (*almshouse/nand.Nand).Next (2 parameters)
def x127 : XC := (.seq (.tree (.seq ⟨some 4, none, (.ofA (.mv (.cst (.v (.int .i64 0)))))⟩
  .done))
 (.seq (.seq (.tree (.seq ⟨some 6, none, (.ofA (.mv (.tmp 0)))⟩
  (.seq ⟨some 7, none, (.ofA (.mv (.tmp 1)))⟩
  (.seq ⟨some 8, none, (.call (.cst (.fn 168 [])) [(.tmp 6), (.tmp 7)])⟩
  (.seq ⟨some 5, none, (.ofA (.mv (.tmp 8)))⟩
  .done)))))
 (.seq (.tree (.seq ⟨some 9, none, (.ofA (.mv (.tmp 5)))⟩
  (.seq ⟨some 10, none, (.ofA (.eqn true 1 (.tmp 9) (.cst (.v (.pointer none)))))⟩
  .done)))
 (.cond (.tmp 10)
 (.seq (.tree (.seq ⟨some 11, none, (.ofA (.mv (.tmp 5)))⟩
  (.seq ⟨some 12, none, (.ofA (.nilc (.tmp 11)))⟩
  (.seq ⟨some 13, none, (.ofA (.faddr 1 (.tmp 12)))⟩
  (.seq ⟨some 14, none, (.ofA (.load none (.tmp 13)))⟩
  (.seq ⟨some 4, none, (.ofA (.mv (.tmp 14)))⟩
  .done))))))
 .ret)
 .skip)))
 (.seq (.tree (.seq ⟨some 4, none, (.ofA (.mv (.cst (.v (.int .i64 0)))))⟩
  .done))
 .ret)))
def r127 : List XR := [.tmp 4]
theorem fn127 : FnX Tryz.prog 127 EFF 15 x127 r127 := ⟨_, Tryz.func127, by kernel_rfl, by kernel_rfl, by kernel_rfl, by kernel_rfl⟩
-- (*almshouse/table.Table).is (3 parameters)
def x128 : XC := (.seq (.tree (.seq ⟨some 6, none, (.ofA (.mv (.cst (.v (.bool false)))))⟩
  .done))
 (.seq (.tree (.seq ⟨some 7, none, (.ofA (.mv (.tmp 0)))⟩
  (.seq ⟨some 8, none, (.ofA (.eqn true 1 (.tmp 7) (.cst (.v (.pointer none)))))⟩
  (.seq ⟨some 9, none, (.ofA (.mv (.tmp 8)))⟩
  (.seq ⟨some 10, some (9, true), (.ofA (.mv (.tmp 1)))⟩
  (.seq ⟨some 11, some (9, true), (.ofA (.bin .geq (.tmp 10) (.cst (.v (.int .i64 0)))))⟩
  (.seq ⟨some 12, none, (.ofA (.pick (.tmp 9) (.tmp 11) (.cst (.v (.bool false)))))⟩
  (.seq ⟨some 13, none, (.ofA (.mv (.tmp 12)))⟩
  (.seq ⟨some 14, some (13, true), (.ofA (.mv (.tmp 1)))⟩
  (.seq ⟨some 15, some (13, true), (.ofA (.mv (.tmp 0)))⟩
  (.seq ⟨some 16, some (13, true), (.ofA (.nilc (.tmp 15)))⟩
  (.seq ⟨some 17, some (13, true), (.ofA (.faddr 194 (.tmp 16)))⟩
  (.seq ⟨some 18, some (13, true), (.ofA (.load none (.tmp 17)))⟩
  (.seq ⟨some 19, some (13, true), (.ofA (.len (.tmp 18)))⟩
  (.seq ⟨some 20, some (13, true), (.ofA (.bin .lss (.tmp 14) (.tmp 19)))⟩
  (.seq ⟨some 21, none, (.ofA (.pick (.tmp 13) (.tmp 20) (.cst (.v (.bool false)))))⟩
  (.seq ⟨some 22, none, (.ofA (.mv (.tmp 21)))⟩
  (.seq ⟨some 23, some (22, true), (.ofA (.mv (.tmp 2)))⟩
  (.seq ⟨some 24, some (22, true), (.ofA (.bin .geq (.tmp 23) (.cst (.v (.int .i64 0)))))⟩
  (.seq ⟨some 25, none, (.ofA (.pick (.tmp 22) (.tmp 24) (.cst (.v (.bool false)))))⟩
  (.seq ⟨some 26, none, (.ofA (.mv (.tmp 25)))⟩
  (.seq ⟨some 27, some (26, true), (.ofA (.mv (.tmp 2)))⟩
  (.seq ⟨some 28, some (26, true), (.ofA (.mv (.tmp 0)))⟩
  (.seq ⟨some 29, some (26, true), (.ofA (.nilc (.tmp 28)))⟩
  (.seq ⟨some 30, some (26, true), (.ofA (.faddr 0 (.tmp 29)))⟩
  (.seq ⟨some 31, some (26, true), (.ofA (.load none (.tmp 30)))⟩
  (.seq ⟨some 32, some (26, true), (.ofA (.bin .lss (.tmp 27) (.tmp 31)))⟩
  (.seq ⟨some 33, none, (.ofA (.pick (.tmp 26) (.tmp 32) (.cst (.v (.bool false)))))⟩
  (.seq ⟨some 6, none, (.ofA (.mv (.tmp 33)))⟩
  .done)))))))))))))))))))))))))))))
 .ret))
def r128 : List XR := [.tmp 6]
theorem fn128 : FnX Tryz.prog 128 EFF 34 x128 r128 := ⟨_, Tryz.func128, by kernel_rfl, by kernel_rfl, by kernel_rfl, by kernel_rfl⟩
end Go.Proofs.YtdbjkklhgfhgnaaGreat
