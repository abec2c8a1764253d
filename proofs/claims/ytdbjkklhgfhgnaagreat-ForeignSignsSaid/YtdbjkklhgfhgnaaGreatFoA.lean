/- Layer 45 (foreign): the law's own document, reckoned by the kernel. -/
import Derived.Test.YtdbjkklhgfhgnaaGreatFoA1
import Derived.Test.YtdbjkklhgfhgnaaGreatSzP
namespace Go.Proofs.YtdbjkklhgfhgnaaGreat
open Go.RowKit Sz
set_option linter.unusedVariables false
set_option linter.unusedSimpArgs false
set_option maxHeartbeats 4000000
set_option maxRecDepth 20000
-- slices.breakPatternsOrdered[int] (3 parameters)
def x219 : XC := (.seq (.tree (.seq ⟨some 11, none, (.ofA (.mv (.tmp 2)))⟩
  (.seq ⟨some 12, none, (.ofA (.mv (.tmp 1)))⟩
  (.seq ⟨some 13, none, (.ofA (.bin .sub (.tmp 11) (.tmp 12)))⟩
  (.seq ⟨some 6, none, (.ofA (.mv (.tmp 13)))⟩
  .done)))))
 (.seq (.tree (.seq ⟨some 14, none, (.ofA (.mv (.tmp 6)))⟩
  (.seq ⟨some 15, none, (.ofA (.bin .geq (.tmp 14) (.cst (.v (.int .i64 8)))))⟩
  .done)))
 (.cond (.tmp 15)
 (.seq (.tree (.seq ⟨some 16, none, (.ofA (.mv (.tmp 6)))⟩
  (.seq ⟨some 17, none, (.ofA (.conv .u64 (.tmp 16)))⟩
  (.seq ⟨some 7, none, (.alloc [(.v (.int .u64 0))])⟩
  (.seq ⟨none, none, (.store 1 (.tmp 7) (.tmp 17))⟩
  .done)))))
 (.seq (.tree (.seq ⟨some 18, none, (.ofA (.mv (.tmp 6)))⟩
  (.seq ⟨some 19, none, (.call (.cst (.fn 250 [])) [(.tmp 18)])⟩
  (.seq ⟨some 8, none, (.ofA (.mv (.tmp 19)))⟩
  .done))))
 (.seq (.tree (.seq ⟨some 20, none, (.ofA (.mv (.tmp 1)))⟩
  (.seq ⟨some 21, none, (.ofA (.mv (.tmp 6)))⟩
  (.seq ⟨some 22, none, (.ofA (.bin .quo (.tmp 21) (.cst (.v (.int .i64 4)))))⟩
  (.seq ⟨some 23, none, (.ofA (.bin .mul (.tmp 22) (.cst (.v (.int .i64 2)))))⟩
  (.seq ⟨some 24, none, (.ofA (.bin .add (.tmp 20) (.tmp 23)))⟩
  (.seq ⟨some 25, none, (.ofA (.bin .sub (.tmp 24) (.cst (.v (.int .i64 1)))))⟩
  (.seq ⟨some 9, none, (.ofA (.mv (.tmp 25)))⟩
  .done))))))))
 (.block 0 (.loop (.seq (.seq (.tree (.seq ⟨some 26, none, (.ofA (.mv (.tmp 9)))⟩
  (.seq ⟨some 27, none, (.ofA (.mv (.tmp 1)))⟩
  (.seq ⟨some 28, none, (.ofA (.mv (.tmp 6)))⟩
  (.seq ⟨some 29, none, (.ofA (.bin .quo (.tmp 28) (.cst (.v (.int .i64 4)))))⟩
  (.seq ⟨some 30, none, (.ofA (.bin .mul (.tmp 29) (.cst (.v (.int .i64 2)))))⟩
  (.seq ⟨some 31, none, (.ofA (.bin .add (.tmp 27) (.tmp 30)))⟩
  (.seq ⟨some 32, none, (.ofA (.bin .add (.tmp 31) (.cst (.v (.int .i64 1)))))⟩
  (.seq ⟨some 33, none, (.ofA (.bin .leq (.tmp 26) (.tmp 32)))⟩
  .done)))))))))
 (.cond (.tmp 33)
 .skip
 (.exit 0)))
 (.seq (.block 1 (.seq (.tree (.seq ⟨some 36, none, (.call (.cst (.fn 251 [])) [(.tmp 7)])⟩
  (.seq ⟨some 37, none, (.ofA (.mv (.tmp 8)))⟩
  (.seq ⟨some 38, none, (.ofA (.bin .sub (.tmp 37) (.cst (.v (.int .u64 1)))))⟩
  (.seq ⟨some 39, none, (.ofA (.bin .and (.tmp 36) (.tmp 38)))⟩
  (.seq ⟨some 40, none, (.ofA (.conv .i64 (.tmp 39)))⟩
  (.seq ⟨some 10, none, (.ofA (.mv (.tmp 40)))⟩
  .done)))))))
 (.seq (.seq (.tree (.seq ⟨some 41, none, (.ofA (.mv (.tmp 10)))⟩
  (.seq ⟨some 42, none, (.ofA (.mv (.tmp 6)))⟩
  (.seq ⟨some 43, none, (.ofA (.bin .geq (.tmp 41) (.tmp 42)))⟩
  .done))))
 (.cond (.tmp 43)
 (.tree (.seq ⟨some 44, none, (.ofA (.mv (.tmp 10)))⟩
  (.seq ⟨some 45, none, (.ofA (.mv (.tmp 6)))⟩
  (.seq ⟨some 46, none, (.ofA (.bin .sub (.tmp 44) (.tmp 45)))⟩
  (.seq ⟨some 10, none, (.ofA (.mv (.tmp 46)))⟩
  .done)))))
 .skip))
 (.tree (.take ⟨some 47, none, (.ofA (.mv (.tmp 0)))⟩
  (.take ⟨some 48, none, (.ofA (.mv (.tmp 9)))⟩
  (.take ⟨some 49, none, (.ofA (.mv (.tmp 0)))⟩
  (.take ⟨some 50, none, (.ofA (.mv (.tmp 1)))⟩
  (.take ⟨some 51, none, (.ofA (.mv (.tmp 10)))⟩
  (.take ⟨some 52, none, (.ofA (.bin .add (.tmp 50) (.tmp 51)))⟩
  (.take ⟨some 53, none, (.ofA (.mv (.tmp 0)))⟩
  (.take ⟨some 54, none, (.ofA (.mv (.tmp 1)))⟩
  (.take ⟨some 55, none, (.ofA (.mv (.tmp 10)))⟩
  (.take ⟨some 56, none, (.ofA (.bin .add (.tmp 54) (.tmp 55)))⟩
  (.take ⟨some 57, none, (.ofA (.isl 1 (.tmp 53) (.tmp 56)))⟩
  (.take ⟨some 58, none, (.ofA (.load none (.tmp 57)))⟩
  (.take ⟨some 59, none, (.ofA (.mv (.tmp 0)))⟩
  (.take ⟨some 60, none, (.ofA (.mv (.tmp 9)))⟩
  (.take ⟨some 61, none, (.ofA (.isl 1 (.tmp 59) (.tmp 60)))⟩
  (.take ⟨some 62, none, (.ofA (.load none (.tmp 61)))⟩
  (.take ⟨some 63, none, (.ofA (.isl 1 (.tmp 47) (.tmp 48)))⟩
  (.alt [false] [(⟨none, none, (.store 1 (.tmp 63) (.tmp 58))⟩,
 (.take ⟨some 64, none, (.ofA (.isl 1 (.tmp 49) (.tmp 52)))⟩
  (.alt [false] [(⟨none, none, (.store 1 (.tmp 64) (.tmp 62))⟩,
 .done)])))]))))))))))))))))))))))
 (.tree (.seq ⟨some 34, none, (.ofA (.mv (.tmp 9)))⟩
  (.seq ⟨some 35, none, (.ofA (.bin .add (.tmp 34) (.cst (.v (.int .i64 1)))))⟩
  (.seq ⟨some 9, none, (.ofA (.mv (.tmp 35)))⟩
  .done)))))))))))
 .skip)))
def r219 : List XR := []
theorem fn219 : FnX Tryz.prog 219 EFF 65 x219 r219 := ⟨_, Tryz.func219, by kernel_rfl, by kernel_rfl, by kernel_rfl, by kernel_rfl⟩
-- slices.choosePivotOrdered[int] (3 parameters)
def x220 : XC := (.seq (.tree (.seq ⟨some 6, none, (.ofA (.mv (.cst (.v (.int .i64 0)))))⟩
  (.seq ⟨some 7, none, (.ofA (.mv (.cst (.v (.int .i64 0)))))⟩
  .done)))
 (.seq (.tree (.seq ⟨some 13, none, (.ofA (.mv (.tmp 2)))⟩
  (.seq ⟨some 14, none, (.ofA (.mv (.tmp 1)))⟩
  (.seq ⟨some 15, none, (.ofA (.bin .sub (.tmp 13) (.tmp 14)))⟩
  (.seq ⟨some 8, none, (.ofA (.mv (.tmp 15)))⟩
  .done)))))
 (.seq (.tree (.seq ⟨some 9, none, (.alloc [(.v (.int .i64 0))])⟩
  .done))
 (.seq (.tree (.seq ⟨some 16, none, (.ofA (.mv (.tmp 1)))⟩
  (.seq ⟨some 17, none, (.ofA (.mv (.tmp 8)))⟩
  (.seq ⟨some 18, none, (.ofA (.bin .quo (.tmp 17) (.cst (.v (.int .i64 4)))))⟩
  (.seq ⟨some 19, none, (.ofA (.bin .mul (.tmp 18) (.cst (.v (.int .i64 1)))))⟩
  (.seq ⟨some 20, none, (.ofA (.bin .add (.tmp 16) (.tmp 19)))⟩
  (.seq ⟨some 10, none, (.ofA (.mv (.tmp 20)))⟩
  .done)))))))
 (.seq (.tree (.seq ⟨some 21, none, (.ofA (.mv (.tmp 1)))⟩
  (.seq ⟨some 22, none, (.ofA (.mv (.tmp 8)))⟩
  (.seq ⟨some 23, none, (.ofA (.bin .quo (.tmp 22) (.cst (.v (.int .i64 4)))))⟩
  (.seq ⟨some 24, none, (.ofA (.bin .mul (.tmp 23) (.cst (.v (.int .i64 2)))))⟩
  (.seq ⟨some 25, none, (.ofA (.bin .add (.tmp 21) (.tmp 24)))⟩
  (.seq ⟨some 11, none, (.ofA (.mv (.tmp 25)))⟩
  .done)))))))
 (.seq (.tree (.seq ⟨some 26, none, (.ofA (.mv (.tmp 1)))⟩
  (.seq ⟨some 27, none, (.ofA (.mv (.tmp 8)))⟩
  (.seq ⟨some 28, none, (.ofA (.bin .quo (.tmp 27) (.cst (.v (.int .i64 4)))))⟩
  (.seq ⟨some 29, none, (.ofA (.bin .mul (.tmp 28) (.cst (.v (.int .i64 3)))))⟩
  (.seq ⟨some 30, none, (.ofA (.bin .add (.tmp 26) (.tmp 29)))⟩
  (.seq ⟨some 12, none, (.ofA (.mv (.tmp 30)))⟩
  .done)))))))
 (.seq (.seq (.tree (.seq ⟨some 31, none, (.ofA (.mv (.tmp 8)))⟩
  (.seq ⟨some 32, none, (.ofA (.bin .geq (.tmp 31) (.cst (.v (.int .i64 8)))))⟩
  .done)))
 (.cond (.tmp 32)
 (.seq (.seq (.tree (.seq ⟨some 33, none, (.ofA (.mv (.tmp 8)))⟩
  (.seq ⟨some 34, none, (.ofA (.bin .geq (.tmp 33) (.cst (.v (.int .i64 50)))))⟩
  .done)))
 (.cond (.tmp 34)
 (.seq (.tree (.seq ⟨some 35, none, (.ofA (.mv (.tmp 0)))⟩
  (.seq ⟨some 36, none, (.ofA (.mv (.tmp 10)))⟩
  (.seq ⟨some 37, none, (.call (.cst (.fn 252 [])) [(.tmp 35), (.tmp 36), (.tmp 9)])⟩
  (.seq ⟨some 10, none, (.ofA (.mv (.tmp 37)))⟩
  .done)))))
 (.seq (.tree (.seq ⟨some 38, none, (.ofA (.mv (.tmp 0)))⟩
  (.seq ⟨some 39, none, (.ofA (.mv (.tmp 11)))⟩
  (.seq ⟨some 40, none, (.call (.cst (.fn 252 [])) [(.tmp 38), (.tmp 39), (.tmp 9)])⟩
  (.seq ⟨some 11, none, (.ofA (.mv (.tmp 40)))⟩
  .done)))))
 (.tree (.seq ⟨some 41, none, (.ofA (.mv (.tmp 0)))⟩
  (.seq ⟨some 42, none, (.ofA (.mv (.tmp 12)))⟩
  (.seq ⟨some 43, none, (.call (.cst (.fn 252 [])) [(.tmp 41), (.tmp 42), (.tmp 9)])⟩
  (.seq ⟨some 12, none, (.ofA (.mv (.tmp 43)))⟩
  .done)))))))
 .skip))
 (.tree (.seq ⟨some 44, none, (.ofA (.mv (.tmp 0)))⟩
  (.seq ⟨some 45, none, (.ofA (.mv (.tmp 10)))⟩
  (.seq ⟨some 46, none, (.ofA (.mv (.tmp 11)))⟩
  (.seq ⟨some 47, none, (.ofA (.mv (.tmp 12)))⟩
  (.seq ⟨some 48, none, (.call (.cst (.fn 253 [])) [(.tmp 44), (.tmp 45), (.tmp 46), (.tmp 47), (.tmp 9)])⟩
  (.seq ⟨some 11, none, (.ofA (.mv (.tmp 48)))⟩
  .done))))))))
 .skip))
 (.seq (.tree (.seq ⟨some 49, none, (.ofA (.load none (.tmp 9)))⟩
  .done))
 (.block 0 (.seq (.tree (.seq ⟨some 52, none, (.ofA (.bin .eql (.tmp 49) (.cst (.v (.int .i64 0)))))⟩
  (.seq ⟨some 51, none, (.ofA (.mv (.tmp 52)))⟩
  .done)))
 (.cond (.tmp 51)
 (.seq (.tree (.seq ⟨some 53, none, (.ofA (.mv (.tmp 11)))⟩
  (.seq ⟨some 6, none, (.ofA (.mv (.tmp 53)))⟩
  (.seq ⟨some 7, none, (.ofA (.mv (.cst (.v (.int .i64 1)))))⟩
  .done))))
 .ret)
 (.seq (.tree (.seq ⟨some 55, none, (.ofA (.bin .eql (.tmp 49) (.cst (.v (.int .i64 12)))))⟩
  (.seq ⟨some 54, none, (.ofA (.mv (.tmp 55)))⟩
  .done)))
 (.cond (.tmp 54)
 (.seq (.tree (.seq ⟨some 56, none, (.ofA (.mv (.tmp 11)))⟩
  (.seq ⟨some 6, none, (.ofA (.mv (.tmp 56)))⟩
  (.seq ⟨some 7, none, (.ofA (.mv (.cst (.v (.int .i64 2)))))⟩
  .done))))
 .ret)
 (.seq (.tree (.seq ⟨some 50, none, (.ofA (.mv (.tmp 11)))⟩
  (.seq ⟨some 6, none, (.ofA (.mv (.tmp 50)))⟩
  (.seq ⟨some 7, none, (.ofA (.mv (.cst (.v (.int .i64 0)))))⟩
  .done))))
 .ret))))))))))))))
def r220 : List XR := [.tmp 6, .tmp 7]
theorem fn220 : FnX Tryz.prog 220 EFF 57 x220 r220 := ⟨_, Tryz.func220, by kernel_rfl, by kernel_rfl, by kernel_rfl, by kernel_rfl⟩
-- slices.reverseRangeOrdered[int] (3 parameters)
def x221 : XC := (.seq (.tree (.seq ⟨some 8, none, (.ofA (.mv (.tmp 1)))⟩
  (.seq ⟨some 6, none, (.ofA (.mv (.tmp 8)))⟩
  .done)))
 (.seq (.tree (.seq ⟨some 9, none, (.ofA (.mv (.tmp 2)))⟩
  (.seq ⟨some 10, none, (.ofA (.bin .sub (.tmp 9) (.cst (.v (.int .i64 1)))))⟩
  (.seq ⟨some 7, none, (.ofA (.mv (.tmp 10)))⟩
  .done))))
 (.block 0 (.loop (.seq (.seq (.tree (.seq ⟨some 11, none, (.ofA (.mv (.tmp 6)))⟩
  (.seq ⟨some 12, none, (.ofA (.mv (.tmp 7)))⟩
  (.seq ⟨some 13, none, (.ofA (.bin .lss (.tmp 11) (.tmp 12)))⟩
  .done))))
 (.cond (.tmp 13)
 .skip
 (.exit 0)))
 (.block 1 (.seq (.tree (.take ⟨some 14, none, (.ofA (.mv (.tmp 0)))⟩
  (.take ⟨some 15, none, (.ofA (.mv (.tmp 6)))⟩
  (.take ⟨some 16, none, (.ofA (.mv (.tmp 0)))⟩
  (.take ⟨some 17, none, (.ofA (.mv (.tmp 7)))⟩
  (.take ⟨some 18, none, (.ofA (.mv (.tmp 0)))⟩
  (.take ⟨some 19, none, (.ofA (.mv (.tmp 7)))⟩
  (.take ⟨some 20, none, (.ofA (.isl 1 (.tmp 18) (.tmp 19)))⟩
  (.take ⟨some 21, none, (.ofA (.load none (.tmp 20)))⟩
  (.take ⟨some 22, none, (.ofA (.mv (.tmp 0)))⟩
  (.take ⟨some 23, none, (.ofA (.mv (.tmp 6)))⟩
  (.take ⟨some 24, none, (.ofA (.isl 1 (.tmp 22) (.tmp 23)))⟩
  (.take ⟨some 25, none, (.ofA (.load none (.tmp 24)))⟩
  (.take ⟨some 26, none, (.ofA (.isl 1 (.tmp 14) (.tmp 15)))⟩
  (.alt [false] [(⟨none, none, (.store 1 (.tmp 26) (.tmp 21))⟩,
 (.take ⟨some 27, none, (.ofA (.isl 1 (.tmp 16) (.tmp 17)))⟩
  (.alt [false] [(⟨none, none, (.store 1 (.tmp 27) (.tmp 25))⟩,
 .done)])))])))))))))))))))
 (.seq (.tree (.seq ⟨some 28, none, (.ofA (.mv (.tmp 6)))⟩
  (.seq ⟨some 29, none, (.ofA (.bin .add (.tmp 28) (.cst (.v (.int .i64 1)))))⟩
  (.seq ⟨some 6, none, (.ofA (.mv (.tmp 29)))⟩
  .done))))
 (.tree (.seq ⟨some 30, none, (.ofA (.mv (.tmp 7)))⟩
  (.seq ⟨some 31, none, (.ofA (.bin .sub (.tmp 30) (.cst (.v (.int .i64 1)))))⟩
  (.seq ⟨some 7, none, (.ofA (.mv (.tmp 31)))⟩
  .done))))))))))))
def r221 : List XR := []
theorem fn221 : FnX Tryz.prog 221 EFF 32 x221 r221 := ⟨_, Tryz.func221, by kernel_rfl, by kernel_rfl, by kernel_rfl, by kernel_rfl⟩
-- slices.partialInsertionSortOrdered[int] (3 parameters)
def x222 : XC := (.seq (.tree (.seq ⟨some 6, none, (.ofA (.mv (.cst (.v (.bool false)))))⟩
  .done))
 (.seq (.tree (.seq ⟨some 11, none, (.ofA (.mv (.tmp 1)))⟩
  (.seq ⟨some 12, none, (.ofA (.bin .add (.tmp 11) (.cst (.v (.int .i64 1)))))⟩
  (.seq ⟨some 7, none, (.ofA (.mv (.tmp 12)))⟩
  .done))))
 (.seq (.seq (.tree (.seq ⟨some 8, none, (.ofA (.mv (.cst (.v (.int .i64 0)))))⟩
  .done))
 (.block 0 (.loop (.seq (.seq (.tree (.seq ⟨some 13, none, (.ofA (.mv (.tmp 8)))⟩
  (.seq ⟨some 14, none, (.ofA (.bin .lss (.tmp 13) (.cst (.v (.int .i64 5)))))⟩
  .done)))
 (.cond (.tmp 14)
 .skip
 (.exit 0)))
 (.seq (.block 1 (.seq (.block 2 (.loop (.seq (.seq (.tree (.take ⟨some 17, none, (.ofA (.mv (.tmp 7)))⟩
  (.take ⟨some 18, none, (.ofA (.mv (.tmp 2)))⟩
  (.take ⟨some 19, none, (.ofA (.bin .lss (.tmp 17) (.tmp 18)))⟩
  (.take ⟨some 20, none, (.ofA (.mv (.tmp 19)))⟩
  (.take ⟨some 21, some (20, true), (.ofA (.mv (.tmp 0)))⟩
  (.take ⟨some 22, some (20, true), (.ofA (.mv (.tmp 7)))⟩
  (.take ⟨some 23, some (20, true), (.ofA (.isl 1 (.tmp 21) (.tmp 22)))⟩
  (.take ⟨some 24, some (20, true), (.ofA (.load none (.tmp 23)))⟩
  (.take ⟨some 25, some (20, true), (.ofA (.mv (.tmp 0)))⟩
  (.take ⟨some 26, some (20, true), (.ofA (.mv (.tmp 7)))⟩
  (.take ⟨some 27, some (20, true), (.ofA (.bin .sub (.tmp 26) (.cst (.v (.int .i64 1)))))⟩
  (.take ⟨some 28, some (20, true), (.ofA (.isl 1 (.tmp 25) (.tmp 27)))⟩
  (.take ⟨some 29, some (20, true), (.ofA (.load none (.tmp 28)))⟩
  (.act true [(⟨some 30, some (20, true), (.call (.cst (.fn 223 [])) [(.tmp 24), (.tmp 29)])⟩,
 (.take ⟨some 31, some (20, true), (.ofA (.un .not (.tmp 30)))⟩
  (.take ⟨some 32, none, (.ofA (.pick (.tmp 20) (.tmp 31) (.cst (.v (.bool false)))))⟩
  .done)))])))))))))))))))
 (.cond (.tmp 32)
 .skip
 (.exit 2)))
 (.block 3 (.tree (.seq ⟨some 33, none, (.ofA (.mv (.tmp 7)))⟩
  (.seq ⟨some 34, none, (.ofA (.bin .add (.tmp 33) (.cst (.v (.int .i64 1)))))⟩
  (.seq ⟨some 7, none, (.ofA (.mv (.tmp 34)))⟩
  .done))))))))
 (.seq (.seq (.tree (.seq ⟨some 35, none, (.ofA (.mv (.tmp 7)))⟩
  (.seq ⟨some 36, none, (.ofA (.mv (.tmp 2)))⟩
  (.seq ⟨some 37, none, (.ofA (.bin .eql (.tmp 35) (.tmp 36)))⟩
  .done))))
 (.cond (.tmp 37)
 (.seq (.tree (.seq ⟨some 6, none, (.ofA (.mv (.cst (.v (.bool true)))))⟩
  .done))
 .ret)
 .skip))
 (.seq (.seq (.tree (.seq ⟨some 38, none, (.ofA (.mv (.tmp 2)))⟩
  (.seq ⟨some 39, none, (.ofA (.mv (.tmp 1)))⟩
  (.seq ⟨some 40, none, (.ofA (.bin .sub (.tmp 38) (.tmp 39)))⟩
  (.seq ⟨some 41, none, (.ofA (.bin .lss (.tmp 40) (.cst (.v (.int .i64 50)))))⟩
  .done)))))
 (.cond (.tmp 41)
 (.seq (.tree (.seq ⟨some 6, none, (.ofA (.mv (.cst (.v (.bool false)))))⟩
  .done))
 .ret)
 .skip))
 (.seq (.tree (.take ⟨some 42, none, (.ofA (.mv (.tmp 0)))⟩
  (.take ⟨some 43, none, (.ofA (.mv (.tmp 7)))⟩
  (.take ⟨some 44, none, (.ofA (.mv (.tmp 0)))⟩
  (.take ⟨some 45, none, (.ofA (.mv (.tmp 7)))⟩
  (.take ⟨some 46, none, (.ofA (.bin .sub (.tmp 45) (.cst (.v (.int .i64 1)))))⟩
  (.take ⟨some 47, none, (.ofA (.mv (.tmp 0)))⟩
  (.take ⟨some 48, none, (.ofA (.mv (.tmp 7)))⟩
  (.take ⟨some 49, none, (.ofA (.bin .sub (.tmp 48) (.cst (.v (.int .i64 1)))))⟩
  (.take ⟨some 50, none, (.ofA (.isl 1 (.tmp 47) (.tmp 49)))⟩
  (.take ⟨some 51, none, (.ofA (.load none (.tmp 50)))⟩
  (.take ⟨some 52, none, (.ofA (.mv (.tmp 0)))⟩
  (.take ⟨some 53, none, (.ofA (.mv (.tmp 7)))⟩
  (.take ⟨some 54, none, (.ofA (.isl 1 (.tmp 52) (.tmp 53)))⟩
  (.take ⟨some 55, none, (.ofA (.load none (.tmp 54)))⟩
  (.take ⟨some 56, none, (.ofA (.isl 1 (.tmp 42) (.tmp 43)))⟩
  (.alt [false] [(⟨none, none, (.store 1 (.tmp 56) (.tmp 51))⟩,
 (.take ⟨some 57, none, (.ofA (.isl 1 (.tmp 44) (.tmp 46)))⟩
  (.alt [false] [(⟨none, none, (.store 1 (.tmp 57) (.tmp 55))⟩,
 .done)])))])))))))))))))))))
 (.seq (.seq (.tree (.seq ⟨some 58, none, (.ofA (.mv (.tmp 7)))⟩
  (.seq ⟨some 59, none, (.ofA (.mv (.tmp 1)))⟩
  (.seq ⟨some 60, none, (.ofA (.bin .sub (.tmp 58) (.tmp 59)))⟩
  (.seq ⟨some 61, none, (.ofA (.bin .geq (.tmp 60) (.cst (.v (.int .i64 2)))))⟩
  .done)))))
 (.cond (.tmp 61)
 (.seq (.tree (.seq ⟨some 62, none, (.ofA (.mv (.tmp 7)))⟩
  (.seq ⟨some 63, none, (.ofA (.bin .sub (.tmp 62) (.cst (.v (.int .i64 1)))))⟩
  (.seq ⟨some 9, none, (.ofA (.mv (.tmp 63)))⟩
  .done))))
 (.block 4 (.loop (.seq (.seq (.tree (.seq ⟨some 64, none, (.ofA (.mv (.tmp 9)))⟩
  (.seq ⟨some 65, none, (.ofA (.bin .geq (.tmp 64) (.cst (.v (.int .i64 1)))))⟩
  .done)))
 (.cond (.tmp 65)
 .skip
 (.exit 4)))
 (.seq (.block 5 (.seq (.seq (.tree (.take ⟨some 68, none, (.ofA (.mv (.tmp 0)))⟩
  (.take ⟨some 69, none, (.ofA (.mv (.tmp 9)))⟩
  (.take ⟨some 70, none, (.ofA (.isl 1 (.tmp 68) (.tmp 69)))⟩
  (.take ⟨some 71, none, (.ofA (.load none (.tmp 70)))⟩
  (.take ⟨some 72, none, (.ofA (.mv (.tmp 0)))⟩
  (.take ⟨some 73, none, (.ofA (.mv (.tmp 9)))⟩
  (.take ⟨some 74, none, (.ofA (.bin .sub (.tmp 73) (.cst (.v (.int .i64 1)))))⟩
  (.take ⟨some 75, none, (.ofA (.isl 1 (.tmp 72) (.tmp 74)))⟩
  (.take ⟨some 76, none, (.ofA (.load none (.tmp 75)))⟩
  (.act true [(⟨some 77, none, (.call (.cst (.fn 223 [])) [(.tmp 71), (.tmp 76)])⟩,
 (.take ⟨some 78, none, (.ofA (.un .not (.tmp 77)))⟩
  .done))])))))))))))
 (.cond (.tmp 78)
 (.exit 4)
 .skip))
 (.tree (.take ⟨some 79, none, (.ofA (.mv (.tmp 0)))⟩
  (.take ⟨some 80, none, (.ofA (.mv (.tmp 9)))⟩
  (.take ⟨some 81, none, (.ofA (.mv (.tmp 0)))⟩
  (.take ⟨some 82, none, (.ofA (.mv (.tmp 9)))⟩
  (.take ⟨some 83, none, (.ofA (.bin .sub (.tmp 82) (.cst (.v (.int .i64 1)))))⟩
  (.take ⟨some 84, none, (.ofA (.mv (.tmp 0)))⟩
  (.take ⟨some 85, none, (.ofA (.mv (.tmp 9)))⟩
  (.take ⟨some 86, none, (.ofA (.bin .sub (.tmp 85) (.cst (.v (.int .i64 1)))))⟩
  (.take ⟨some 87, none, (.ofA (.isl 1 (.tmp 84) (.tmp 86)))⟩
  (.take ⟨some 88, none, (.ofA (.load none (.tmp 87)))⟩
  (.take ⟨some 89, none, (.ofA (.mv (.tmp 0)))⟩
  (.take ⟨some 90, none, (.ofA (.mv (.tmp 9)))⟩
  (.take ⟨some 91, none, (.ofA (.isl 1 (.tmp 89) (.tmp 90)))⟩
  (.take ⟨some 92, none, (.ofA (.load none (.tmp 91)))⟩
  (.take ⟨some 93, none, (.ofA (.isl 1 (.tmp 79) (.tmp 80)))⟩
  (.alt [false] [(⟨none, none, (.store 1 (.tmp 93) (.tmp 88))⟩,
 (.take ⟨some 94, none, (.ofA (.isl 1 (.tmp 81) (.tmp 83)))⟩
  (.alt [false] [(⟨none, none, (.store 1 (.tmp 94) (.tmp 92))⟩,
 .done)])))])))))))))))))))))))
 (.tree (.seq ⟨some 66, none, (.ofA (.mv (.tmp 9)))⟩
  (.seq ⟨some 67, none, (.ofA (.bin .sub (.tmp 66) (.cst (.v (.int .i64 1)))))⟩
  (.seq ⟨some 9, none, (.ofA (.mv (.tmp 67)))⟩
  .done)))))))))
 .skip))
 (.seq (.tree (.seq ⟨some 95, none, (.ofA (.mv (.tmp 2)))⟩
  (.seq ⟨some 96, none, (.ofA (.mv (.tmp 7)))⟩
  (.seq ⟨some 97, none, (.ofA (.bin .sub (.tmp 95) (.tmp 96)))⟩
  (.seq ⟨some 98, none, (.ofA (.bin .geq (.tmp 97) (.cst (.v (.int .i64 2)))))⟩
  .done)))))
 (.cond (.tmp 98)
 (.seq (.tree (.seq ⟨some 99, none, (.ofA (.mv (.tmp 7)))⟩
  (.seq ⟨some 100, none, (.ofA (.bin .add (.tmp 99) (.cst (.v (.int .i64 1)))))⟩
  (.seq ⟨some 10, none, (.ofA (.mv (.tmp 100)))⟩
  .done))))
 (.block 6 (.loop (.seq (.seq (.tree (.seq ⟨some 101, none, (.ofA (.mv (.tmp 10)))⟩
  (.seq ⟨some 102, none, (.ofA (.mv (.tmp 2)))⟩
  (.seq ⟨some 103, none, (.ofA (.bin .lss (.tmp 101) (.tmp 102)))⟩
  .done))))
 (.cond (.tmp 103)
 .skip
 (.exit 6)))
 (.seq (.block 7 (.seq (.seq (.tree (.take ⟨some 106, none, (.ofA (.mv (.tmp 0)))⟩
  (.take ⟨some 107, none, (.ofA (.mv (.tmp 10)))⟩
  (.take ⟨some 108, none, (.ofA (.isl 1 (.tmp 106) (.tmp 107)))⟩
  (.take ⟨some 109, none, (.ofA (.load none (.tmp 108)))⟩
  (.take ⟨some 110, none, (.ofA (.mv (.tmp 0)))⟩
  (.take ⟨some 111, none, (.ofA (.mv (.tmp 10)))⟩
  (.take ⟨some 112, none, (.ofA (.bin .sub (.tmp 111) (.cst (.v (.int .i64 1)))))⟩
  (.take ⟨some 113, none, (.ofA (.isl 1 (.tmp 110) (.tmp 112)))⟩
  (.take ⟨some 114, none, (.ofA (.load none (.tmp 113)))⟩
  (.act true [(⟨some 115, none, (.call (.cst (.fn 223 [])) [(.tmp 109), (.tmp 114)])⟩,
 (.take ⟨some 116, none, (.ofA (.un .not (.tmp 115)))⟩
  .done))])))))))))))
 (.cond (.tmp 116)
 (.exit 6)
 .skip))
 (.tree (.take ⟨some 117, none, (.ofA (.mv (.tmp 0)))⟩
  (.take ⟨some 118, none, (.ofA (.mv (.tmp 10)))⟩
  (.take ⟨some 119, none, (.ofA (.mv (.tmp 0)))⟩
  (.take ⟨some 120, none, (.ofA (.mv (.tmp 10)))⟩
  (.take ⟨some 121, none, (.ofA (.bin .sub (.tmp 120) (.cst (.v (.int .i64 1)))))⟩
  (.take ⟨some 122, none, (.ofA (.mv (.tmp 0)))⟩
  (.take ⟨some 123, none, (.ofA (.mv (.tmp 10)))⟩
  (.take ⟨some 124, none, (.ofA (.bin .sub (.tmp 123) (.cst (.v (.int .i64 1)))))⟩
  (.take ⟨some 125, none, (.ofA (.isl 1 (.tmp 122) (.tmp 124)))⟩
  (.take ⟨some 126, none, (.ofA (.load none (.tmp 125)))⟩
  (.take ⟨some 127, none, (.ofA (.mv (.tmp 0)))⟩
  (.take ⟨some 128, none, (.ofA (.mv (.tmp 10)))⟩
  (.take ⟨some 129, none, (.ofA (.isl 1 (.tmp 127) (.tmp 128)))⟩
  (.take ⟨some 130, none, (.ofA (.load none (.tmp 129)))⟩
  (.take ⟨some 131, none, (.ofA (.isl 1 (.tmp 117) (.tmp 118)))⟩
  (.alt [false] [(⟨none, none, (.store 1 (.tmp 131) (.tmp 126))⟩,
 (.take ⟨some 132, none, (.ofA (.isl 1 (.tmp 119) (.tmp 121)))⟩
  (.alt [false] [(⟨none, none, (.store 1 (.tmp 132) (.tmp 130))⟩,
 .done)])))])))))))))))))))))))
 (.tree (.seq ⟨some 104, none, (.ofA (.mv (.tmp 10)))⟩
  (.seq ⟨some 105, none, (.ofA (.bin .add (.tmp 104) (.cst (.v (.int .i64 1)))))⟩
  (.seq ⟨some 10, none, (.ofA (.mv (.tmp 105)))⟩
  .done)))))))))
 .skip))))))))
 (.tree (.seq ⟨some 15, none, (.ofA (.mv (.tmp 8)))⟩
  (.seq ⟨some 16, none, (.ofA (.bin .add (.tmp 15) (.cst (.v (.int .i64 1)))))⟩
  (.seq ⟨some 8, none, (.ofA (.mv (.tmp 16)))⟩
  .done)))))))))
 (.seq (.tree (.seq ⟨some 6, none, (.ofA (.mv (.cst (.v (.bool false)))))⟩
  .done))
 .ret))))
def r222 : List XR := [.tmp 6]
theorem fn222 : FnX Tryz.prog 222 EFF 133 x222 r222 := ⟨_, Tryz.func222, by kernel_rfl, by kernel_rfl, by kernel_rfl, by kernel_rfl⟩
-- cmp.Less[int] (2 parameters)
def x223 : XC := (.seq (.tree (.seq ⟨some 4, none, (.ofA (.mv (.cst (.v (.bool false)))))⟩
  .done))
 (.seq (.tree (.seq ⟨some 5, none, (.ofA (.mv (.tmp 0)))⟩
  (.seq ⟨some 6, none, (.call (.cst (.fn 241 [])) [(.tmp 5)])⟩
  (.seq ⟨some 7, none, (.ofA (.mv (.tmp 6)))⟩
  (.seq ⟨some 8, some (7, true), (.ofA (.mv (.tmp 1)))⟩
  (.seq ⟨some 9, some (7, true), (.call (.cst (.fn 241 [])) [(.tmp 8)])⟩
  (.seq ⟨some 10, some (7, true), (.ofA (.un .not (.tmp 9)))⟩
  (.seq ⟨some 11, none, (.ofA (.pick (.tmp 7) (.tmp 10) (.cst (.v (.bool false)))))⟩
  (.seq ⟨some 12, none, (.ofA (.mv (.tmp 11)))⟩
  (.seq ⟨some 13, some (12, false), (.ofA (.mv (.tmp 0)))⟩
  (.seq ⟨some 14, some (12, false), (.ofA (.mv (.tmp 1)))⟩
  (.seq ⟨some 15, some (12, false), (.ofA (.bin .lss (.tmp 13) (.tmp 14)))⟩
  (.seq ⟨some 16, none, (.ofA (.pick (.tmp 12) (.cst (.v (.bool true))) (.tmp 15)))⟩
  (.seq ⟨some 4, none, (.ofA (.mv (.tmp 16)))⟩
  .done))))))))))))))
 .ret))
def r223 : List XR := [.tmp 4]
theorem fn223 : FnX Tryz.prog 223 EFF 17 x223 r223 := ⟨_, Tryz.func223, by kernel_rfl, by kernel_rfl, by kernel_rfl, by kernel_rfl⟩
-- slices.partitionEqualOrdered[int] (4 parameters)
def x224 : XC := (.seq (.tree (.seq ⟨some 8, none, (.ofA (.mv (.cst (.v (.int .i64 0)))))⟩
  .done))
 (.seq (.tree (.take ⟨some 11, none, (.ofA (.mv (.tmp 0)))⟩
  (.take ⟨some 12, none, (.ofA (.mv (.tmp 1)))⟩
  (.take ⟨some 13, none, (.ofA (.mv (.tmp 0)))⟩
  (.take ⟨some 14, none, (.ofA (.mv (.tmp 3)))⟩
  (.take ⟨some 15, none, (.ofA (.mv (.tmp 0)))⟩
  (.take ⟨some 16, none, (.ofA (.mv (.tmp 3)))⟩
  (.take ⟨some 17, none, (.ofA (.isl 1 (.tmp 15) (.tmp 16)))⟩
  (.take ⟨some 18, none, (.ofA (.load none (.tmp 17)))⟩
  (.take ⟨some 19, none, (.ofA (.mv (.tmp 0)))⟩
  (.take ⟨some 20, none, (.ofA (.mv (.tmp 1)))⟩
  (.take ⟨some 21, none, (.ofA (.isl 1 (.tmp 19) (.tmp 20)))⟩
  (.take ⟨some 22, none, (.ofA (.load none (.tmp 21)))⟩
  (.take ⟨some 23, none, (.ofA (.isl 1 (.tmp 11) (.tmp 12)))⟩
  (.alt [false] [(⟨none, none, (.store 1 (.tmp 23) (.tmp 18))⟩,
 (.take ⟨some 24, none, (.ofA (.isl 1 (.tmp 13) (.tmp 14)))⟩
  (.alt [false] [(⟨none, none, (.store 1 (.tmp 24) (.tmp 22))⟩,
 .done)])))])))))))))))))))
 (.seq (.tree (.seq ⟨some 25, none, (.ofA (.mv (.tmp 1)))⟩
  (.seq ⟨some 26, none, (.ofA (.bin .add (.tmp 25) (.cst (.v (.int .i64 1)))))⟩
  (.seq ⟨some 27, none, (.ofA (.mv (.tmp 2)))⟩
  (.seq ⟨some 28, none, (.ofA (.bin .sub (.tmp 27) (.cst (.v (.int .i64 1)))))⟩
  (.seq ⟨some 9, none, (.ofA (.mv (.tmp 26)))⟩
  (.seq ⟨some 10, none, (.ofA (.mv (.tmp 28)))⟩
  .done)))))))
 (.seq (.block 0 (.loop (.block 1 (.seq (.block 2 (.loop (.seq (.seq (.tree (.take ⟨some 29, none, (.ofA (.mv (.tmp 9)))⟩
  (.take ⟨some 30, none, (.ofA (.mv (.tmp 10)))⟩
  (.take ⟨some 31, none, (.ofA (.bin .leq (.tmp 29) (.tmp 30)))⟩
  (.take ⟨some 32, none, (.ofA (.mv (.tmp 31)))⟩
  (.take ⟨some 33, some (32, true), (.ofA (.mv (.tmp 0)))⟩
  (.take ⟨some 34, some (32, true), (.ofA (.mv (.tmp 1)))⟩
  (.take ⟨some 35, some (32, true), (.ofA (.isl 1 (.tmp 33) (.tmp 34)))⟩
  (.take ⟨some 36, some (32, true), (.ofA (.load none (.tmp 35)))⟩
  (.take ⟨some 37, some (32, true), (.ofA (.mv (.tmp 0)))⟩
  (.take ⟨some 38, some (32, true), (.ofA (.mv (.tmp 9)))⟩
  (.take ⟨some 39, some (32, true), (.ofA (.isl 1 (.tmp 37) (.tmp 38)))⟩
  (.take ⟨some 40, some (32, true), (.ofA (.load none (.tmp 39)))⟩
  (.act true [(⟨some 41, some (32, true), (.call (.cst (.fn 223 [])) [(.tmp 36), (.tmp 40)])⟩,
 (.take ⟨some 42, some (32, true), (.ofA (.un .not (.tmp 41)))⟩
  (.take ⟨some 43, none, (.ofA (.pick (.tmp 32) (.tmp 42) (.cst (.v (.bool false)))))⟩
  .done)))]))))))))))))))
 (.cond (.tmp 43)
 .skip
 (.exit 2)))
 (.block 3 (.tree (.seq ⟨some 44, none, (.ofA (.mv (.tmp 9)))⟩
  (.seq ⟨some 45, none, (.ofA (.bin .add (.tmp 44) (.cst (.v (.int .i64 1)))))⟩
  (.seq ⟨some 9, none, (.ofA (.mv (.tmp 45)))⟩
  .done))))))))
 (.seq (.block 4 (.loop (.seq (.seq (.tree (.take ⟨some 46, none, (.ofA (.mv (.tmp 9)))⟩
  (.take ⟨some 47, none, (.ofA (.mv (.tmp 10)))⟩
  (.take ⟨some 48, none, (.ofA (.bin .leq (.tmp 46) (.tmp 47)))⟩
  (.take ⟨some 49, none, (.ofA (.mv (.tmp 48)))⟩
  (.take ⟨some 50, some (49, true), (.ofA (.mv (.tmp 0)))⟩
  (.take ⟨some 51, some (49, true), (.ofA (.mv (.tmp 1)))⟩
  (.take ⟨some 52, some (49, true), (.ofA (.isl 1 (.tmp 50) (.tmp 51)))⟩
  (.take ⟨some 53, some (49, true), (.ofA (.load none (.tmp 52)))⟩
  (.take ⟨some 54, some (49, true), (.ofA (.mv (.tmp 0)))⟩
  (.take ⟨some 55, some (49, true), (.ofA (.mv (.tmp 10)))⟩
  (.take ⟨some 56, some (49, true), (.ofA (.isl 1 (.tmp 54) (.tmp 55)))⟩
  (.take ⟨some 57, some (49, true), (.ofA (.load none (.tmp 56)))⟩
  (.act true [(⟨some 58, some (49, true), (.call (.cst (.fn 223 [])) [(.tmp 53), (.tmp 57)])⟩,
 (.take ⟨some 59, none, (.ofA (.pick (.tmp 49) (.tmp 58) (.cst (.v (.bool false)))))⟩
  .done))]))))))))))))))
 (.cond (.tmp 59)
 .skip
 (.exit 4)))
 (.block 5 (.tree (.seq ⟨some 60, none, (.ofA (.mv (.tmp 10)))⟩
  (.seq ⟨some 61, none, (.ofA (.bin .sub (.tmp 60) (.cst (.v (.int .i64 1)))))⟩
  (.seq ⟨some 10, none, (.ofA (.mv (.tmp 61)))⟩
  .done))))))))
 (.seq (.seq (.tree (.seq ⟨some 62, none, (.ofA (.mv (.tmp 9)))⟩
  (.seq ⟨some 63, none, (.ofA (.mv (.tmp 10)))⟩
  (.seq ⟨some 64, none, (.ofA (.bin .gtr (.tmp 62) (.tmp 63)))⟩
  .done))))
 (.cond (.tmp 64)
 (.exit 0)
 .skip))
 (.seq (.tree (.take ⟨some 65, none, (.ofA (.mv (.tmp 0)))⟩
  (.take ⟨some 66, none, (.ofA (.mv (.tmp 9)))⟩
  (.take ⟨some 67, none, (.ofA (.mv (.tmp 0)))⟩
  (.take ⟨some 68, none, (.ofA (.mv (.tmp 10)))⟩
  (.take ⟨some 69, none, (.ofA (.mv (.tmp 0)))⟩
  (.take ⟨some 70, none, (.ofA (.mv (.tmp 10)))⟩
  (.take ⟨some 71, none, (.ofA (.isl 1 (.tmp 69) (.tmp 70)))⟩
  (.take ⟨some 72, none, (.ofA (.load none (.tmp 71)))⟩
  (.take ⟨some 73, none, (.ofA (.mv (.tmp 0)))⟩
  (.take ⟨some 74, none, (.ofA (.mv (.tmp 9)))⟩
  (.take ⟨some 75, none, (.ofA (.isl 1 (.tmp 73) (.tmp 74)))⟩
  (.take ⟨some 76, none, (.ofA (.load none (.tmp 75)))⟩
  (.take ⟨some 77, none, (.ofA (.isl 1 (.tmp 65) (.tmp 66)))⟩
  (.alt [false] [(⟨none, none, (.store 1 (.tmp 77) (.tmp 72))⟩,
 (.take ⟨some 78, none, (.ofA (.isl 1 (.tmp 67) (.tmp 68)))⟩
  (.alt [false] [(⟨none, none, (.store 1 (.tmp 78) (.tmp 76))⟩,
 .done)])))])))))))))))))))
 (.seq (.tree (.seq ⟨some 79, none, (.ofA (.mv (.tmp 9)))⟩
  (.seq ⟨some 80, none, (.ofA (.bin .add (.tmp 79) (.cst (.v (.int .i64 1)))))⟩
  (.seq ⟨some 9, none, (.ofA (.mv (.tmp 80)))⟩
  .done))))
 (.tree (.seq ⟨some 81, none, (.ofA (.mv (.tmp 10)))⟩
  (.seq ⟨some 82, none, (.ofA (.bin .sub (.tmp 81) (.cst (.v (.int .i64 1)))))⟩
  (.seq ⟨some 10, none, (.ofA (.mv (.tmp 82)))⟩
  .done))))))))))))
 (.seq (.tree (.seq ⟨some 83, none, (.ofA (.mv (.tmp 9)))⟩
  (.seq ⟨some 8, none, (.ofA (.mv (.tmp 83)))⟩
  .done)))
 .ret)))))
def r224 : List XR := [.tmp 8]
theorem fn224 : FnX Tryz.prog 224 EFF 84 x224 r224 := ⟨_, Tryz.func224, by kernel_rfl, by kernel_rfl, by kernel_rfl, by kernel_rfl⟩
-- slices.partitionOrdered[int] (4 parameters)
def x225 : XC := (.seq (.tree (.seq ⟨some 8, none, (.ofA (.mv (.cst (.v (.int .i64 0)))))⟩
  (.seq ⟨some 9, none, (.ofA (.mv (.cst (.v (.bool false)))))⟩
  .done)))
 (.seq (.tree (.take ⟨some 12, none, (.ofA (.mv (.tmp 0)))⟩
  (.take ⟨some 13, none, (.ofA (.mv (.tmp 1)))⟩
  (.take ⟨some 14, none, (.ofA (.mv (.tmp 0)))⟩
  (.take ⟨some 15, none, (.ofA (.mv (.tmp 3)))⟩
  (.take ⟨some 16, none, (.ofA (.mv (.tmp 0)))⟩
  (.take ⟨some 17, none, (.ofA (.mv (.tmp 3)))⟩
  (.take ⟨some 18, none, (.ofA (.isl 1 (.tmp 16) (.tmp 17)))⟩
  (.take ⟨some 19, none, (.ofA (.load none (.tmp 18)))⟩
  (.take ⟨some 20, none, (.ofA (.mv (.tmp 0)))⟩
  (.take ⟨some 21, none, (.ofA (.mv (.tmp 1)))⟩
  (.take ⟨some 22, none, (.ofA (.isl 1 (.tmp 20) (.tmp 21)))⟩
  (.take ⟨some 23, none, (.ofA (.load none (.tmp 22)))⟩
  (.take ⟨some 24, none, (.ofA (.isl 1 (.tmp 12) (.tmp 13)))⟩
  (.alt [false] [(⟨none, none, (.store 1 (.tmp 24) (.tmp 19))⟩,
 (.take ⟨some 25, none, (.ofA (.isl 1 (.tmp 14) (.tmp 15)))⟩
  (.alt [false] [(⟨none, none, (.store 1 (.tmp 25) (.tmp 23))⟩,
 .done)])))])))))))))))))))
 (.seq (.tree (.seq ⟨some 26, none, (.ofA (.mv (.tmp 1)))⟩
  (.seq ⟨some 27, none, (.ofA (.bin .add (.tmp 26) (.cst (.v (.int .i64 1)))))⟩
  (.seq ⟨some 28, none, (.ofA (.mv (.tmp 2)))⟩
  (.seq ⟨some 29, none, (.ofA (.bin .sub (.tmp 28) (.cst (.v (.int .i64 1)))))⟩
  (.seq ⟨some 10, none, (.ofA (.mv (.tmp 27)))⟩
  (.seq ⟨some 11, none, (.ofA (.mv (.tmp 29)))⟩
  .done)))))))
 (.seq (.block 0 (.loop (.seq (.seq (.tree (.take ⟨some 30, none, (.ofA (.mv (.tmp 10)))⟩
  (.take ⟨some 31, none, (.ofA (.mv (.tmp 11)))⟩
  (.take ⟨some 32, none, (.ofA (.bin .leq (.tmp 30) (.tmp 31)))⟩
  (.take ⟨some 33, none, (.ofA (.mv (.tmp 32)))⟩
  (.take ⟨some 34, some (33, true), (.ofA (.mv (.tmp 0)))⟩
  (.take ⟨some 35, some (33, true), (.ofA (.mv (.tmp 10)))⟩
  (.take ⟨some 36, some (33, true), (.ofA (.isl 1 (.tmp 34) (.tmp 35)))⟩
  (.take ⟨some 37, some (33, true), (.ofA (.load none (.tmp 36)))⟩
  (.take ⟨some 38, some (33, true), (.ofA (.mv (.tmp 0)))⟩
  (.take ⟨some 39, some (33, true), (.ofA (.mv (.tmp 1)))⟩
  (.take ⟨some 40, some (33, true), (.ofA (.isl 1 (.tmp 38) (.tmp 39)))⟩
  (.take ⟨some 41, some (33, true), (.ofA (.load none (.tmp 40)))⟩
  (.act true [(⟨some 42, some (33, true), (.call (.cst (.fn 223 [])) [(.tmp 37), (.tmp 41)])⟩,
 (.take ⟨some 43, none, (.ofA (.pick (.tmp 33) (.tmp 42) (.cst (.v (.bool false)))))⟩
  .done))]))))))))))))))
 (.cond (.tmp 43)
 .skip
 (.exit 0)))
 (.block 1 (.tree (.seq ⟨some 44, none, (.ofA (.mv (.tmp 10)))⟩
  (.seq ⟨some 45, none, (.ofA (.bin .add (.tmp 44) (.cst (.v (.int .i64 1)))))⟩
  (.seq ⟨some 10, none, (.ofA (.mv (.tmp 45)))⟩
  .done))))))))
 (.seq (.block 2 (.loop (.seq (.seq (.tree (.take ⟨some 46, none, (.ofA (.mv (.tmp 10)))⟩
  (.take ⟨some 47, none, (.ofA (.mv (.tmp 11)))⟩
  (.take ⟨some 48, none, (.ofA (.bin .leq (.tmp 46) (.tmp 47)))⟩
  (.take ⟨some 49, none, (.ofA (.mv (.tmp 48)))⟩
  (.take ⟨some 50, some (49, true), (.ofA (.mv (.tmp 0)))⟩
  (.take ⟨some 51, some (49, true), (.ofA (.mv (.tmp 11)))⟩
  (.take ⟨some 52, some (49, true), (.ofA (.isl 1 (.tmp 50) (.tmp 51)))⟩
  (.take ⟨some 53, some (49, true), (.ofA (.load none (.tmp 52)))⟩
  (.take ⟨some 54, some (49, true), (.ofA (.mv (.tmp 0)))⟩
  (.take ⟨some 55, some (49, true), (.ofA (.mv (.tmp 1)))⟩
  (.take ⟨some 56, some (49, true), (.ofA (.isl 1 (.tmp 54) (.tmp 55)))⟩
  (.take ⟨some 57, some (49, true), (.ofA (.load none (.tmp 56)))⟩
  (.act true [(⟨some 58, some (49, true), (.call (.cst (.fn 223 [])) [(.tmp 53), (.tmp 57)])⟩,
 (.take ⟨some 59, some (49, true), (.ofA (.un .not (.tmp 58)))⟩
  (.take ⟨some 60, none, (.ofA (.pick (.tmp 49) (.tmp 59) (.cst (.v (.bool false)))))⟩
  .done)))]))))))))))))))
 (.cond (.tmp 60)
 .skip
 (.exit 2)))
 (.block 3 (.tree (.seq ⟨some 61, none, (.ofA (.mv (.tmp 11)))⟩
  (.seq ⟨some 62, none, (.ofA (.bin .sub (.tmp 61) (.cst (.v (.int .i64 1)))))⟩
  (.seq ⟨some 11, none, (.ofA (.mv (.tmp 62)))⟩
  .done))))))))
 (.seq (.seq (.tree (.seq ⟨some 63, none, (.ofA (.mv (.tmp 10)))⟩
  (.seq ⟨some 64, none, (.ofA (.mv (.tmp 11)))⟩
  (.seq ⟨some 65, none, (.ofA (.bin .gtr (.tmp 63) (.tmp 64)))⟩
  .done))))
 (.cond (.tmp 65)
 (.seq (.tree (.take ⟨some 66, none, (.ofA (.mv (.tmp 0)))⟩
  (.take ⟨some 67, none, (.ofA (.mv (.tmp 11)))⟩
  (.take ⟨some 68, none, (.ofA (.mv (.tmp 0)))⟩
  (.take ⟨some 69, none, (.ofA (.mv (.tmp 1)))⟩
  (.take ⟨some 70, none, (.ofA (.mv (.tmp 0)))⟩
  (.take ⟨some 71, none, (.ofA (.mv (.tmp 1)))⟩
  (.take ⟨some 72, none, (.ofA (.isl 1 (.tmp 70) (.tmp 71)))⟩
  (.take ⟨some 73, none, (.ofA (.load none (.tmp 72)))⟩
  (.take ⟨some 74, none, (.ofA (.mv (.tmp 0)))⟩
  (.take ⟨some 75, none, (.ofA (.mv (.tmp 11)))⟩
  (.take ⟨some 76, none, (.ofA (.isl 1 (.tmp 74) (.tmp 75)))⟩
  (.take ⟨some 77, none, (.ofA (.load none (.tmp 76)))⟩
  (.take ⟨some 78, none, (.ofA (.isl 1 (.tmp 66) (.tmp 67)))⟩
  (.alt [false] [(⟨none, none, (.store 1 (.tmp 78) (.tmp 73))⟩,
 (.take ⟨some 79, none, (.ofA (.isl 1 (.tmp 68) (.tmp 69)))⟩
  (.alt [false] [(⟨none, none, (.store 1 (.tmp 79) (.tmp 77))⟩,
 .done)])))])))))))))))))))
 (.seq (.tree (.seq ⟨some 80, none, (.ofA (.mv (.tmp 11)))⟩
  (.seq ⟨some 8, none, (.ofA (.mv (.tmp 80)))⟩
  (.seq ⟨some 9, none, (.ofA (.mv (.cst (.v (.bool true)))))⟩
  .done))))
 .ret))
 .skip))
 (.seq (.tree (.take ⟨some 81, none, (.ofA (.mv (.tmp 0)))⟩
  (.take ⟨some 82, none, (.ofA (.mv (.tmp 10)))⟩
  (.take ⟨some 83, none, (.ofA (.mv (.tmp 0)))⟩
  (.take ⟨some 84, none, (.ofA (.mv (.tmp 11)))⟩
  (.take ⟨some 85, none, (.ofA (.mv (.tmp 0)))⟩
  (.take ⟨some 86, none, (.ofA (.mv (.tmp 11)))⟩
  (.take ⟨some 87, none, (.ofA (.isl 1 (.tmp 85) (.tmp 86)))⟩
  (.take ⟨some 88, none, (.ofA (.load none (.tmp 87)))⟩
  (.take ⟨some 89, none, (.ofA (.mv (.tmp 0)))⟩
  (.take ⟨some 90, none, (.ofA (.mv (.tmp 10)))⟩
  (.take ⟨some 91, none, (.ofA (.isl 1 (.tmp 89) (.tmp 90)))⟩
  (.take ⟨some 92, none, (.ofA (.load none (.tmp 91)))⟩
  (.take ⟨some 93, none, (.ofA (.isl 1 (.tmp 81) (.tmp 82)))⟩
  (.alt [false] [(⟨none, none, (.store 1 (.tmp 93) (.tmp 88))⟩,
 (.take ⟨some 94, none, (.ofA (.isl 1 (.tmp 83) (.tmp 84)))⟩
  (.alt [false] [(⟨none, none, (.store 1 (.tmp 94) (.tmp 92))⟩,
 .done)])))])))))))))))))))
 (.seq (.tree (.seq ⟨some 95, none, (.ofA (.mv (.tmp 10)))⟩
  (.seq ⟨some 96, none, (.ofA (.bin .add (.tmp 95) (.cst (.v (.int .i64 1)))))⟩
  (.seq ⟨some 10, none, (.ofA (.mv (.tmp 96)))⟩
  .done))))
 (.seq (.tree (.seq ⟨some 97, none, (.ofA (.mv (.tmp 11)))⟩
  (.seq ⟨some 98, none, (.ofA (.bin .sub (.tmp 97) (.cst (.v (.int .i64 1)))))⟩
  (.seq ⟨some 11, none, (.ofA (.mv (.tmp 98)))⟩
  .done))))
 (.seq (.block 4 (.loop (.block 5 (.seq (.block 6 (.loop (.seq (.seq (.tree (.take ⟨some 99, none, (.ofA (.mv (.tmp 10)))⟩
  (.take ⟨some 100, none, (.ofA (.mv (.tmp 11)))⟩
  (.take ⟨some 101, none, (.ofA (.bin .leq (.tmp 99) (.tmp 100)))⟩
  (.take ⟨some 102, none, (.ofA (.mv (.tmp 101)))⟩
  (.take ⟨some 103, some (102, true), (.ofA (.mv (.tmp 0)))⟩
  (.take ⟨some 104, some (102, true), (.ofA (.mv (.tmp 10)))⟩
  (.take ⟨some 105, some (102, true), (.ofA (.isl 1 (.tmp 103) (.tmp 104)))⟩
  (.take ⟨some 106, some (102, true), (.ofA (.load none (.tmp 105)))⟩
  (.take ⟨some 107, some (102, true), (.ofA (.mv (.tmp 0)))⟩
  (.take ⟨some 108, some (102, true), (.ofA (.mv (.tmp 1)))⟩
  (.take ⟨some 109, some (102, true), (.ofA (.isl 1 (.tmp 107) (.tmp 108)))⟩
  (.take ⟨some 110, some (102, true), (.ofA (.load none (.tmp 109)))⟩
  (.act true [(⟨some 111, some (102, true), (.call (.cst (.fn 223 [])) [(.tmp 106), (.tmp 110)])⟩,
 (.take ⟨some 112, none, (.ofA (.pick (.tmp 102) (.tmp 111) (.cst (.v (.bool false)))))⟩
  .done))]))))))))))))))
 (.cond (.tmp 112)
 .skip
 (.exit 6)))
 (.block 7 (.tree (.seq ⟨some 113, none, (.ofA (.mv (.tmp 10)))⟩
  (.seq ⟨some 114, none, (.ofA (.bin .add (.tmp 113) (.cst (.v (.int .i64 1)))))⟩
  (.seq ⟨some 10, none, (.ofA (.mv (.tmp 114)))⟩
  .done))))))))
 (.seq (.block 8 (.loop (.seq (.seq (.tree (.take ⟨some 115, none, (.ofA (.mv (.tmp 10)))⟩
  (.take ⟨some 116, none, (.ofA (.mv (.tmp 11)))⟩
  (.take ⟨some 117, none, (.ofA (.bin .leq (.tmp 115) (.tmp 116)))⟩
  (.take ⟨some 118, none, (.ofA (.mv (.tmp 117)))⟩
  (.take ⟨some 119, some (118, true), (.ofA (.mv (.tmp 0)))⟩
  (.take ⟨some 120, some (118, true), (.ofA (.mv (.tmp 11)))⟩
  (.take ⟨some 121, some (118, true), (.ofA (.isl 1 (.tmp 119) (.tmp 120)))⟩
  (.take ⟨some 122, some (118, true), (.ofA (.load none (.tmp 121)))⟩
  (.take ⟨some 123, some (118, true), (.ofA (.mv (.tmp 0)))⟩
  (.take ⟨some 124, some (118, true), (.ofA (.mv (.tmp 1)))⟩
  (.take ⟨some 125, some (118, true), (.ofA (.isl 1 (.tmp 123) (.tmp 124)))⟩
  (.take ⟨some 126, some (118, true), (.ofA (.load none (.tmp 125)))⟩
  (.act true [(⟨some 127, some (118, true), (.call (.cst (.fn 223 [])) [(.tmp 122), (.tmp 126)])⟩,
 (.take ⟨some 128, some (118, true), (.ofA (.un .not (.tmp 127)))⟩
  (.take ⟨some 129, none, (.ofA (.pick (.tmp 118) (.tmp 128) (.cst (.v (.bool false)))))⟩
  .done)))]))))))))))))))
 (.cond (.tmp 129)
 .skip
 (.exit 8)))
 (.block 9 (.tree (.seq ⟨some 130, none, (.ofA (.mv (.tmp 11)))⟩
  (.seq ⟨some 131, none, (.ofA (.bin .sub (.tmp 130) (.cst (.v (.int .i64 1)))))⟩
  (.seq ⟨some 11, none, (.ofA (.mv (.tmp 131)))⟩
  .done))))))))
 (.seq (.seq (.tree (.seq ⟨some 132, none, (.ofA (.mv (.tmp 10)))⟩
  (.seq ⟨some 133, none, (.ofA (.mv (.tmp 11)))⟩
  (.seq ⟨some 134, none, (.ofA (.bin .gtr (.tmp 132) (.tmp 133)))⟩
  .done))))
 (.cond (.tmp 134)
 (.exit 4)
 .skip))
 (.seq (.tree (.take ⟨some 135, none, (.ofA (.mv (.tmp 0)))⟩
  (.take ⟨some 136, none, (.ofA (.mv (.tmp 10)))⟩
  (.take ⟨some 137, none, (.ofA (.mv (.tmp 0)))⟩
  (.take ⟨some 138, none, (.ofA (.mv (.tmp 11)))⟩
  (.take ⟨some 139, none, (.ofA (.mv (.tmp 0)))⟩
  (.take ⟨some 140, none, (.ofA (.mv (.tmp 11)))⟩
  (.take ⟨some 141, none, (.ofA (.isl 1 (.tmp 139) (.tmp 140)))⟩
  (.take ⟨some 142, none, (.ofA (.load none (.tmp 141)))⟩
  (.take ⟨some 143, none, (.ofA (.mv (.tmp 0)))⟩
  (.take ⟨some 144, none, (.ofA (.mv (.tmp 10)))⟩
  (.take ⟨some 145, none, (.ofA (.isl 1 (.tmp 143) (.tmp 144)))⟩
  (.take ⟨some 146, none, (.ofA (.load none (.tmp 145)))⟩
  (.take ⟨some 147, none, (.ofA (.isl 1 (.tmp 135) (.tmp 136)))⟩
  (.alt [false] [(⟨none, none, (.store 1 (.tmp 147) (.tmp 142))⟩,
 (.take ⟨some 148, none, (.ofA (.isl 1 (.tmp 137) (.tmp 138)))⟩
  (.alt [false] [(⟨none, none, (.store 1 (.tmp 148) (.tmp 146))⟩,
 .done)])))])))))))))))))))
 (.seq (.tree (.seq ⟨some 149, none, (.ofA (.mv (.tmp 10)))⟩
  (.seq ⟨some 150, none, (.ofA (.bin .add (.tmp 149) (.cst (.v (.int .i64 1)))))⟩
  (.seq ⟨some 10, none, (.ofA (.mv (.tmp 150)))⟩
  .done))))
 (.tree (.seq ⟨some 151, none, (.ofA (.mv (.tmp 11)))⟩
  (.seq ⟨some 152, none, (.ofA (.bin .sub (.tmp 151) (.cst (.v (.int .i64 1)))))⟩
  (.seq ⟨some 11, none, (.ofA (.mv (.tmp 152)))⟩
  .done))))))))))))
 (.seq (.tree (.take ⟨some 153, none, (.ofA (.mv (.tmp 0)))⟩
  (.take ⟨some 154, none, (.ofA (.mv (.tmp 11)))⟩
  (.take ⟨some 155, none, (.ofA (.mv (.tmp 0)))⟩
  (.take ⟨some 156, none, (.ofA (.mv (.tmp 1)))⟩
  (.take ⟨some 157, none, (.ofA (.mv (.tmp 0)))⟩
  (.take ⟨some 158, none, (.ofA (.mv (.tmp 1)))⟩
  (.take ⟨some 159, none, (.ofA (.isl 1 (.tmp 157) (.tmp 158)))⟩
  (.take ⟨some 160, none, (.ofA (.load none (.tmp 159)))⟩
  (.take ⟨some 161, none, (.ofA (.mv (.tmp 0)))⟩
  (.take ⟨some 162, none, (.ofA (.mv (.tmp 11)))⟩
  (.take ⟨some 163, none, (.ofA (.isl 1 (.tmp 161) (.tmp 162)))⟩
  (.take ⟨some 164, none, (.ofA (.load none (.tmp 163)))⟩
  (.take ⟨some 165, none, (.ofA (.isl 1 (.tmp 153) (.tmp 154)))⟩
  (.alt [false] [(⟨none, none, (.store 1 (.tmp 165) (.tmp 160))⟩,
 (.take ⟨some 166, none, (.ofA (.isl 1 (.tmp 155) (.tmp 156)))⟩
  (.alt [false] [(⟨none, none, (.store 1 (.tmp 166) (.tmp 164))⟩,
 .done)])))])))))))))))))))
 (.seq (.tree (.seq ⟨some 167, none, (.ofA (.mv (.tmp 11)))⟩
  (.seq ⟨some 8, none, (.ofA (.mv (.tmp 167)))⟩
  (.seq ⟨some 9, none, (.ofA (.mv (.cst (.v (.bool false)))))⟩
  .done))))
 .ret))))))))))))
def r225 : List XR := [.tmp 8, .tmp 9]
theorem fn225 : FnX Tryz.prog 225 EFF 168 x225 r225 := ⟨_, Tryz.func225, by kernel_rfl, by kernel_rfl, by kernel_rfl, by kernel_rfl⟩
-- math/bits.Len32 (1 parameters)
def x226 : XC := (.seq (.tree (.seq ⟨some 2, none, (.ofA (.mv (.cst (.v (.int .i64 0)))))⟩
  .done))
 (.seq (.seq (.tree (.seq ⟨some 3, none, (.ofA (.mv (.tmp 0)))⟩
  (.seq ⟨some 4, none, (.ofA (.bin .geq (.tmp 3) (.cst (.v (.int .u32 65536)))))⟩
  .done)))
 (.cond (.tmp 4)
 (.seq (.tree (.seq ⟨some 5, none, (.ofA (.mv (.tmp 0)))⟩
  (.seq ⟨some 6, none, (.ofA (.bin .shr (.tmp 5) (.cst (.v (.int .u64 16)))))⟩
  (.seq ⟨some 0, none, (.ofA (.mv (.tmp 6)))⟩
  .done))))
 (.tree (.seq ⟨some 2, none, (.ofA (.mv (.cst (.v (.int .i64 16)))))⟩
  .done)))
 .skip))
 (.seq (.seq (.tree (.seq ⟨some 7, none, (.ofA (.mv (.tmp 0)))⟩
  (.seq ⟨some 8, none, (.ofA (.bin .geq (.tmp 7) (.cst (.v (.int .u32 256)))))⟩
  .done)))
 (.cond (.tmp 8)
 (.seq (.tree (.seq ⟨some 9, none, (.ofA (.mv (.tmp 0)))⟩
  (.seq ⟨some 10, none, (.ofA (.bin .shr (.tmp 9) (.cst (.v (.int .u64 8)))))⟩
  (.seq ⟨some 0, none, (.ofA (.mv (.tmp 10)))⟩
  .done))))
 (.tree (.seq ⟨some 11, none, (.ofA (.mv (.tmp 2)))⟩
  (.seq ⟨some 12, none, (.ofA (.bin .add (.tmp 11) (.cst (.v (.int .i64 8)))))⟩
  (.seq ⟨some 2, none, (.ofA (.mv (.tmp 12)))⟩
  .done)))))
 .skip))
 (.seq (.tree (.seq ⟨some 13, none, (.ofA (.mv (.tmp 2)))⟩
  (.seq ⟨some 14, none, (.ofA (.mv (.tmp 0)))⟩
  (.seq ⟨some 15, none, (.ofA (.conv .u8 (.tmp 14)))⟩
  (.seq ⟨some 16, none, (.ofA (.sidx (.cst (.v (.string ⟨#[0, 1, 2, 2, 3, 3, 3, 3, 4, 4, 4, 4, 4, 4, 4, 4, 5, 5, 5, 5, 5, 5, 5, 5, 5, 5, 5, 5, 5, 5, 5, 5, 6, 6, 6, 6, 6, 6, 6, 6, 6, 6, 6, 6, 6, 6, 6, 6, 6, 6, 6, 6, 6, 6, 6, 6, 6, 6, 6, 6, 6, 6, 6, 6, 7, 7, 7, 7, 7, 7, 7, 7, 7, 7, 7, 7, 7, 7, 7, 7, 7, 7, 7, 7, 7, 7, 7, 7, 7, 7, 7, 7, 7, 7, 7, 7, 7, 7, 7, 7, 7, 7, 7, 7, 7, 7, 7, 7, 7, 7, 7, 7, 7, 7, 7, 7, 7, 7, 7, 7, 7, 7, 7, 7, 7, 7, 7, 7, 8, 8, 8, 8, 8, 8, 8, 8, 8, 8, 8, 8, 8, 8, 8, 8, 8, 8, 8, 8, 8, 8, 8, 8, 8, 8, 8, 8, 8, 8, 8, 8, 8, 8, 8, 8, 8, 8, 8, 8, 8, 8, 8, 8, 8, 8, 8, 8, 8, 8, 8, 8, 8, 8, 8, 8, 8, 8, 8, 8, 8, 8, 8, 8, 8, 8, 8, 8, 8, 8, 8, 8, 8, 8, 8, 8, 8, 8, 8, 8, 8, 8, 8, 8, 8, 8, 8, 8, 8, 8, 8, 8, 8, 8, 8, 8, 8, 8, 8, 8, 8, 8, 8, 8, 8, 8, 8, 8, 8, 8, 8, 8, 8, 8, 8, 8, 8, 8, 8, 8, 8, 8, 8, 8, 8, 8, 8, 8]⟩))) (.tmp 15)))⟩
  (.seq ⟨some 17, none, (.ofA (.conv .i64 (.tmp 16)))⟩
  (.seq ⟨some 18, none, (.ofA (.bin .add (.tmp 13) (.tmp 17)))⟩
  (.seq ⟨some 2, none, (.ofA (.mv (.tmp 18)))⟩
  .done))))))))
 .ret))))
def r226 : List XR := [.tmp 2]
theorem fn226 : FnX Tryz.prog 226 EFF 19 x226 r226 := ⟨_, Tryz.func226, by kernel_rfl, by kernel_rfl, by kernel_rfl, by kernel_rfl⟩
-- math/bits.Len64 (1 parameters)
def x227 : XC := (.seq (.tree (.seq ⟨some 2, none, (.ofA (.mv (.cst (.v (.int .i64 0)))))⟩
  .done))
 (.seq (.seq (.tree (.seq ⟨some 3, none, (.ofA (.mv (.tmp 0)))⟩
  (.seq ⟨some 4, none, (.ofA (.bin .geq (.tmp 3) (.cst (.v (.int .u64 4294967296)))))⟩
  .done)))
 (.cond (.tmp 4)
 (.seq (.tree (.seq ⟨some 5, none, (.ofA (.mv (.tmp 0)))⟩
  (.seq ⟨some 6, none, (.ofA (.bin .shr (.tmp 5) (.cst (.v (.int .u64 32)))))⟩
  (.seq ⟨some 0, none, (.ofA (.mv (.tmp 6)))⟩
  .done))))
 (.tree (.seq ⟨some 2, none, (.ofA (.mv (.cst (.v (.int .i64 32)))))⟩
  .done)))
 .skip))
 (.seq (.seq (.tree (.seq ⟨some 7, none, (.ofA (.mv (.tmp 0)))⟩
  (.seq ⟨some 8, none, (.ofA (.bin .geq (.tmp 7) (.cst (.v (.int .u64 65536)))))⟩
  .done)))
 (.cond (.tmp 8)
 (.seq (.tree (.seq ⟨some 9, none, (.ofA (.mv (.tmp 0)))⟩
  (.seq ⟨some 10, none, (.ofA (.bin .shr (.tmp 9) (.cst (.v (.int .u64 16)))))⟩
  (.seq ⟨some 0, none, (.ofA (.mv (.tmp 10)))⟩
  .done))))
 (.tree (.seq ⟨some 11, none, (.ofA (.mv (.tmp 2)))⟩
  (.seq ⟨some 12, none, (.ofA (.bin .add (.tmp 11) (.cst (.v (.int .i64 16)))))⟩
  (.seq ⟨some 2, none, (.ofA (.mv (.tmp 12)))⟩
  .done)))))
 .skip))
 (.seq (.seq (.tree (.seq ⟨some 13, none, (.ofA (.mv (.tmp 0)))⟩
  (.seq ⟨some 14, none, (.ofA (.bin .geq (.tmp 13) (.cst (.v (.int .u64 256)))))⟩
  .done)))
 (.cond (.tmp 14)
 (.seq (.tree (.seq ⟨some 15, none, (.ofA (.mv (.tmp 0)))⟩
  (.seq ⟨some 16, none, (.ofA (.bin .shr (.tmp 15) (.cst (.v (.int .u64 8)))))⟩
  (.seq ⟨some 0, none, (.ofA (.mv (.tmp 16)))⟩
  .done))))
 (.tree (.seq ⟨some 17, none, (.ofA (.mv (.tmp 2)))⟩
  (.seq ⟨some 18, none, (.ofA (.bin .add (.tmp 17) (.cst (.v (.int .i64 8)))))⟩
  (.seq ⟨some 2, none, (.ofA (.mv (.tmp 18)))⟩
  .done)))))
 .skip))
 (.seq (.tree (.seq ⟨some 19, none, (.ofA (.mv (.tmp 2)))⟩
  (.seq ⟨some 20, none, (.ofA (.mv (.tmp 0)))⟩
  (.seq ⟨some 21, none, (.ofA (.conv .u8 (.tmp 20)))⟩
  (.seq ⟨some 22, none, (.ofA (.sidx (.cst (.v (.string ⟨#[0, 1, 2, 2, 3, 3, 3, 3, 4, 4, 4, 4, 4, 4, 4, 4, 5, 5, 5, 5, 5, 5, 5, 5, 5, 5, 5, 5, 5, 5, 5, 5, 6, 6, 6, 6, 6, 6, 6, 6, 6, 6, 6, 6, 6, 6, 6, 6, 6, 6, 6, 6, 6, 6, 6, 6, 6, 6, 6, 6, 6, 6, 6, 6, 7, 7, 7, 7, 7, 7, 7, 7, 7, 7, 7, 7, 7, 7, 7, 7, 7, 7, 7, 7, 7, 7, 7, 7, 7, 7, 7, 7, 7, 7, 7, 7, 7, 7, 7, 7, 7, 7, 7, 7, 7, 7, 7, 7, 7, 7, 7, 7, 7, 7, 7, 7, 7, 7, 7, 7, 7, 7, 7, 7, 7, 7, 7, 7, 8, 8, 8, 8, 8, 8, 8, 8, 8, 8, 8, 8, 8, 8, 8, 8, 8, 8, 8, 8, 8, 8, 8, 8, 8, 8, 8, 8, 8, 8, 8, 8, 8, 8, 8, 8, 8, 8, 8, 8, 8, 8, 8, 8, 8, 8, 8, 8, 8, 8, 8, 8, 8, 8, 8, 8, 8, 8, 8, 8, 8, 8, 8, 8, 8, 8, 8, 8, 8, 8, 8, 8, 8, 8, 8, 8, 8, 8, 8, 8, 8, 8, 8, 8, 8, 8, 8, 8, 8, 8, 8, 8, 8, 8, 8, 8, 8, 8, 8, 8, 8, 8, 8, 8, 8, 8, 8, 8, 8, 8, 8, 8, 8, 8, 8, 8, 8, 8, 8, 8, 8, 8, 8, 8, 8, 8, 8, 8]⟩))) (.tmp 21)))⟩
  (.seq ⟨some 23, none, (.ofA (.conv .i64 (.tmp 22)))⟩
  (.seq ⟨some 24, none, (.ofA (.bin .add (.tmp 19) (.tmp 23)))⟩
  (.seq ⟨some 2, none, (.ofA (.mv (.tmp 24)))⟩
  .done))))))))
 .ret)))))
def r227 : List XR := [.tmp 2]
theorem fn227 : FnX Tryz.prog 227 EFF 25 x227 r227 := ⟨_, Tryz.func227, by kernel_rfl, by kernel_rfl, by kernel_rfl, by kernel_rfl⟩
-- (*almshouse/power.Power).Spend (1 parameters)
def x228 : XC := (.seq (.tree (.seq ⟨some 2, none, (.ofA (.mv (.cst (.v (.int .i64 0)))))⟩
  .done))
 (.seq (.seq (.tree (.seq ⟨some 4, none, (.ofA (.mv (.tmp 0)))⟩
  (.seq ⟨some 5, none, (.call (.cst (.fn 99 [])) [(.tmp 4)])⟩
  .done)))
 (.cond (.tmp 5)
 (.seq (.tree (.seq ⟨some 2, none, (.ofA (.mv (.cst (.v (.int .i64 12)))))⟩
  .done))
 .ret)
 .skip))
 (.seq (.tree (.seq ⟨some 6, none, (.ofA (.mv (.tmp 0)))⟩
  (.seq ⟨some 7, none, (.ofA (.nilc (.tmp 6)))⟩
  (.seq ⟨some 8, none, (.ofA (.faddr 2 (.tmp 7)))⟩
  (.seq ⟨some 9, none, (.call (.cst (.fn 254 [])) [(.tmp 8), (.cst (.v (.int .i64 1)))])⟩
  .done)))))
 (.seq (.seq (.tree (.seq ⟨some 10, none, (.ofA (.mv (.tmp 0)))⟩
  (.seq ⟨some 11, none, (.ofA (.nilc (.tmp 10)))⟩
  (.seq ⟨some 12, none, (.ofA (.faddr 0 (.tmp 11)))⟩
  (.seq ⟨some 13, none, (.call (.cst (.fn 140 [])) [(.tmp 12)])⟩
  (.seq ⟨some 3, none, (.ofA (.mv (.tmp 13)))⟩
  .done))))))
 (.block 0 (.seq (.tree (.seq ⟨some 15, none, (.ofA (.mv (.tmp 3)))⟩
  (.seq ⟨some 16, none, (.ofA (.bin .eql (.tmp 15) (.cst (.v (.int .i64 0)))))⟩
  (.seq ⟨some 14, none, (.ofA (.mv (.tmp 16)))⟩
  .done))))
 (.cond (.tmp 14)
 (.seq (.tree (.seq ⟨some 17, none, (.ofA (.mv (.tmp 0)))⟩
  (.seq ⟨some 18, none, (.ofA (.nilc (.tmp 17)))⟩
  (.seq ⟨some 19, none, (.ofA (.faddr 1 (.tmp 18)))⟩
  (.seq ⟨some 20, none, (.call (.cst (.fn 137 [])) [(.tmp 19), (.cst (.v (.bool true)))])⟩
  .done)))))
 (.seq (.tree (.seq ⟨some 2, none, (.ofA (.mv (.cst (.v (.int .i64 11)))))⟩
  .done))
 .ret))
 (.seq (.tree (.seq ⟨some 22, none, (.ofA (.mv (.tmp 3)))⟩
  (.seq ⟨some 23, none, (.ofA (.bin .gtr (.tmp 22) (.cst (.v (.int .i64 0)))))⟩
  (.seq ⟨some 21, none, (.ofA (.mv (.tmp 23)))⟩
  .done))))
 (.cond (.tmp 21)
 (.tree (.seq ⟨some 24, none, (.ofA (.mv (.tmp 0)))⟩
  (.seq ⟨some 25, none, (.ofA (.nilc (.tmp 24)))⟩
  (.seq ⟨some 26, none, (.ofA (.faddr 0 (.tmp 25)))⟩
  (.seq ⟨some 27, none, (.ofA (.mv (.tmp 3)))⟩
  (.seq ⟨some 28, none, (.ofA (.bin .sub (.tmp 27) (.cst (.v (.int .i64 1)))))⟩
  (.seq ⟨some 29, none, (.call (.cst (.fn 138 [])) [(.tmp 26), (.tmp 28)])⟩
  .done)))))))
 .skip))))))
 (.seq (.tree (.seq ⟨some 2, none, (.ofA (.mv (.cst (.v (.int .i64 0)))))⟩
  .done))
 .ret)))))
def r228 : List XR := [.tmp 2]
theorem fn228 : FnX Tryz.prog 228 EFF 30 x228 r228 := ⟨_, Tryz.func228, by kernel_rfl, by kernel_rfl, by kernel_rfl, by kernel_rfl⟩
-- (*almshouse/draws.Draws).Next (2 parameters)
def x229 : XC := (.seq (.tree (.seq ⟨some 4, none, (.ofA (.mv (.cst (.v (.bool false)))))⟩
  .done))
 (.seq (.tree (.seq ⟨some 6, none, (.ofA (.mv (.tmp 0)))⟩
  (.seq ⟨some 7, none, (.ofA (.mv (.tmp 1)))⟩
  (.seq ⟨some 8, none, (.call (.cst (.fn 139 [])) [(.tmp 6), (.tmp 7)])⟩
  (.seq ⟨some 5, none, (.ofA (.mv (.tmp 8)))⟩
  .done)))))
 (.seq (.seq (.tree (.take ⟨some 9, none, (.ofA (.mv (.tmp 5)))⟩
  (.take ⟨some 10, none, (.ofA (.eqn false 1 (.tmp 9) (.cst (.v (.pointer none)))))⟩
  (.take ⟨some 11, none, (.ofA (.mv (.tmp 10)))⟩
  (.take ⟨some 12, some (11, false), (.ofA (.mv (.tmp 5)))⟩
  (.take ⟨some 13, some (11, false), (.ofA (.nilc (.tmp 12)))⟩
  (.take ⟨some 14, some (11, false), (.ofA (.faddr 0 (.tmp 13)))⟩
  (.take ⟨some 16, some (11, false), (.ofA (.mv (.tmp 5)))⟩
  (.take ⟨some 17, some (11, false), (.ofA (.nilc (.tmp 16)))⟩
  (.take ⟨some 18, some (11, false), (.ofA (.faddr 1 (.tmp 17)))⟩
  (.alt [true, false] [(⟨some 15, some (11, false), (.ofA (.load none (.tmp 14)))⟩,
 (.alt [false] [(⟨some 19, some (11, false), (.call (.cst (.fn 254 [])) [(.tmp 18), (.cst (.v (.int .i64 1)))])⟩,
 (.alt [true] [(⟨some 20, some (11, false), (.call (.cst (.fn 132 [])) [(.tmp 15), (.tmp 19)])⟩,
 (.take ⟨some 21, some (11, false), (.ofA (.un .not (.tmp 20)))⟩
  (.take ⟨some 22, none, (.ofA (.pick (.tmp 11) (.cst (.v (.bool true))) (.tmp 21)))⟩
  .done)))]))])), (⟨some 19, some (11, false), (.call (.cst (.fn 254 [])) [(.tmp 18), (.cst (.v (.int .i64 1)))])⟩,
 (.take ⟨some 15, some (11, false), (.ofA (.load none (.tmp 14)))⟩
  (.alt [true] [(⟨some 20, some (11, false), (.call (.cst (.fn 132 [])) [(.tmp 15), (.tmp 19)])⟩,
 (.take ⟨some 21, some (11, false), (.ofA (.un .not (.tmp 20)))⟩
  (.take ⟨some 22, none, (.ofA (.pick (.tmp 11) (.cst (.v (.bool true))) (.tmp 21)))⟩
  .done)))])))])))))))))))
 (.cond (.tmp 22)
 (.seq (.tree (.seq ⟨some 4, none, (.ofA (.mv (.cst (.v (.bool false)))))⟩
  .done))
 .ret)
 .skip))
 (.seq (.tree (.seq ⟨some 23, none, (.ofA (.mv (.tmp 5)))⟩
  (.seq ⟨some 24, none, (.ofA (.nilc (.tmp 23)))⟩
  (.seq ⟨some 25, none, (.ofA (.faddr 2 (.tmp 24)))⟩
  (.seq ⟨some 26, none, (.call (.cst (.fn 254 [])) [(.tmp 25), (.cst (.v (.int .i64 1)))])⟩
  .done)))))
 (.seq (.tree (.seq ⟨some 4, none, (.ofA (.mv (.cst (.v (.bool true)))))⟩
  .done))
 .ret)))))
def r229 : List XR := [.tmp 4]
theorem fn229 : FnX Tryz.prog 229 EFF 27 x229 r229 := ⟨_, Tryz.func229, by kernel_rfl, by kernel_rfl, by kernel_rfl, by kernel_rfl⟩
-- slices.IndexFunc[[]almshouse/api.Tenant,almshouse/api.Tenant] (2 parameters)
def x230 : XC := (.seq (.tree (.seq ⟨some 4, none, (.ofA (.mv (.cst (.v (.int .i64 0)))))⟩
  .done))
 (.seq (.seq (.tree (.seq ⟨some 6, none, (.ofA (.mv (.tmp 0)))⟩
  (.seq ⟨some 7, none, (.ofA (.len (.tmp 6)))⟩
  (.seq ⟨some 8, none, (.ofA (.mv (.cst (.v (.int .i64 0)))))⟩
  .done))))
 (.block 0 (.loop (.seq (.tree (.seq ⟨some 9, none, (.ofA (.bin .lss (.tmp 8) (.tmp 7)))⟩
  .done))
 (.seq (.cond (.tmp 9)
 .skip
 (.exit 0))
 (.seq (.block 1 (.seq (.tree (.seq ⟨some 10, none, (.ofA (.mv (.tmp 8)))⟩
  (.seq ⟨some 5, none, (.ofA (.mv (.tmp 10)))⟩
  .done)))
 (.seq (.tree (.seq ⟨some 11, none, (.ofA (.mv (.tmp 1)))⟩
  (.seq ⟨some 12, none, (.ofA (.mv (.tmp 0)))⟩
  (.seq ⟨some 13, none, (.ofA (.mv (.tmp 5)))⟩
  (.seq ⟨some 14, none, (.ofA (.isl 5 (.tmp 12) (.tmp 13)))⟩
  (.seq ⟨some 15, none, (.ofA (.load (some 5) (.tmp 14)))⟩
  (.seq ⟨some 16, none, (.call (.tmp 11) [(.tmp 15)])⟩
  .done)))))))
 (.cond (.tmp 16)
 (.seq (.tree (.seq ⟨some 17, none, (.ofA (.mv (.tmp 5)))⟩
  (.seq ⟨some 4, none, (.ofA (.mv (.tmp 17)))⟩
  .done)))
 .ret)
 .skip))))
 (.tree (.seq ⟨some 18, none, (.ofA (.bin .add (.tmp 8) (.cst (.v (.int .i64 1)))))⟩
  (.seq ⟨some 8, none, (.ofA (.mv (.tmp 18)))⟩
  .done)))))))))
 (.seq (.tree (.seq ⟨some 4, none, (.ofA (.mv (.cst (.v (.int .i64 (-1))))))⟩
  .done))
 .ret)))
def r230 : List XR := [.tmp 4]
theorem fn230 : FnX Tryz.prog 230 EFF 19 x230 r230 := ⟨_, Tryz.func230, by kernel_rfl, by kernel_rfl, by kernel_rfl, by kernel_rfl⟩
-- almshouse/ledger.Owner$1 (1 parameters)
def x231 : XC := (.seq (.tree (.seq ⟨some 2, none, (.box (.tmp 0))⟩
  (.seq ⟨some 3, none, (.ofA (.mv (.cst (.v (.bool false)))))⟩
  .done)))
 (.seq (.tree (.seq ⟨some 4, none, (.ofA (.faddr 4 (.tmp 2)))⟩
  (.seq ⟨some 5, none, (.ofA (.load none (.tmp 4)))⟩
  (.seq ⟨some 6, none, (.ofA (.load none (.tmp 1)))⟩
  (.seq ⟨some 7, none, (.call (.cst (.fn 132 [])) [(.tmp 5), (.tmp 6)])⟩
  (.seq ⟨some 3, none, (.ofA (.mv (.tmp 7)))⟩
  .done))))))
 .ret))
def r231 : List XR := [.tmp 3]
theorem fn231 : FnX Tryz.prog 231 EFF 8 x231 r231 := ⟨_, Tryz.func231, by kernel_rfl, by kernel_rfl, by kernel_rfl, by kernel_rfl⟩
-- almshouse/ledger.Check (3 parameters)
def x232 : XC := (.seq (.tree (.seq ⟨some 3, none, (.box (.tmp 0))⟩
  (.seq ⟨some 6, none, (.ofA (.mv (.cst (.v (.int .i64 0)))))⟩
  .done)))
 (.seq (.seq (.tree (.seq ⟨some 14, none, (.ofA (.faddr 0 (.tmp 3)))⟩
  (.seq ⟨some 15, none, (.ofA (.load none (.tmp 14)))⟩
  (.seq ⟨some 16, none, (.call (.cst (.fn 151 [])) [(.tmp 15), (.cst (.v (.int .i64 0))), (.cst (.v (.int .i64 2147483647)))])⟩
  (.seq ⟨some 17, none, (.ofA (.un .not (.tmp 16)))⟩
  (.seq ⟨some 18, none, (.ofA (.mv (.tmp 17)))⟩
  (.seq ⟨some 19, some (18, false), (.ofA (.faddr 1 (.tmp 3)))⟩
  (.seq ⟨some 20, some (18, false), (.ofA (.load none (.tmp 19)))⟩
  (.seq ⟨some 21, some (18, false), (.call (.cst (.fn 151 [])) [(.tmp 20), (.cst (.v (.int .i64 0))), (.cst (.v (.int .i64 2147483647)))])⟩
  (.seq ⟨some 22, some (18, false), (.ofA (.un .not (.tmp 21)))⟩
  (.seq ⟨some 23, none, (.ofA (.pick (.tmp 18) (.cst (.v (.bool true))) (.tmp 22)))⟩
  .done)))))))))))
 (.cond (.tmp 23)
 (.seq (.tree (.seq ⟨some 6, none, (.ofA (.mv (.cst (.v (.int .i64 2)))))⟩
  .done))
 .ret)
 .skip))
 (.seq (.tree (.seq ⟨some 24, none, (.ofA (.mv (.tmp 1)))⟩
  (.seq ⟨some 25, none, (.ofA (.mx true (.tmp 24) [(.cst (.v (.int .i64 0)))]))⟩
  (.seq ⟨some 1, none, (.ofA (.mv (.tmp 25)))⟩
  .done))))
 (.seq (.tree (.seq ⟨some 26, none, (.mkMap (.int .i64))⟩
  (.seq ⟨some 27, none, (.mkMap (.int .i64))⟩
  (.seq ⟨some 7, none, (.ofA (.mv (.tmp 26)))⟩
  (.seq ⟨some 8, none, (.ofA (.mv (.tmp 27)))⟩
  .done)))))
 (.seq (.seq (.tree (.seq ⟨some 28, none, (.ofA (.faddr 2 (.tmp 3)))⟩
  (.seq ⟨some 29, none, (.ofA (.load (some 20) (.tmp 28)))⟩
  (.seq ⟨some 30, none, (.ofA (.mv (.cst (.v (.int .i64 0)))))⟩
  .done))))
 (.block 0 (.loop (.seq (.tree (.seq ⟨some 31, none, (.ofA (.bin .lss (.tmp 30) (.cst (.v (.int .i64 4)))))⟩
  .done))
 (.seq (.cond (.tmp 31)
 .skip
 (.exit 0))
 (.seq (.block 1 (.seq (.tree (.seq ⟨some 32, none, (.ofA (.idx 4 5 true (.tmp 29) (.tmp 30)))⟩
  (.seq ⟨some 10, none, (.alloc [(.v (.bool false)), (.v (.int .i64 0)), (.v (.int .i64 0)), (.v (.int .i64 0)), (.v (.slice none 0 0))])⟩
  (.seq ⟨none, none, (.store 5 (.tmp 10) (.tmp 32))⟩
  .done))))
 (.seq (.seq (.tree (.seq ⟨some 33, none, (.ofA (.faddr 0 (.tmp 10)))⟩
  (.seq ⟨some 34, none, (.ofA (.load none (.tmp 33)))⟩
  (.seq ⟨some 35, none, (.ofA (.un .not (.tmp 34)))⟩
  (.seq ⟨some 36, none, (.ofA (.mv (.tmp 35)))⟩
  (.seq ⟨some 37, some (36, true), (.ofA (.load (some 5) (.tmp 10)))⟩
  (.seq ⟨some 38, some (36, true), (.call (.cst (.fn 255 [])) [(.tmp 37)])⟩
  (.seq ⟨some 39, none, (.ofA (.pick (.tmp 36) (.tmp 38) (.cst (.v (.bool false)))))⟩
  .done))))))))
 (.cond (.tmp 39)
 (.exit 1)
 .skip))
 (.seq (.tree (.seq ⟨some 40, none, (.ofA (.faddr 2 (.tmp 10)))⟩
  (.seq ⟨some 41, none, (.ofA (.load none (.tmp 40)))⟩
  (.seq ⟨some 42, none, (.ofA (.faddr 3 (.tmp 10)))⟩
  (.seq ⟨some 43, none, (.ofA (.load none (.tmp 42)))⟩
  (.seq ⟨some 44, none, (.ofA (.mv (.tmp 2)))⟩
  (.seq ⟨some 45, none, (.call (.cst (.fn 81 [])) [(.tmp 41), (.tmp 43), (.tmp 44)])⟩
  (.seq ⟨some 11, none, (.ofA (.mv (.tmp 45)))⟩
  .done))))))))
 (.seq (.seq (.tree (.seq ⟨some 46, none, (.ofA (.faddr 0 (.tmp 10)))⟩
  (.seq ⟨some 47, none, (.ofA (.load none (.tmp 46)))⟩
  (.seq ⟨some 48, none, (.ofA (.un .not (.tmp 47)))⟩
  (.seq ⟨some 49, none, (.ofA (.mv (.tmp 48)))⟩
  (.seq ⟨some 50, some (49, false), (.ofA (.faddr 1 (.tmp 10)))⟩
  (.seq ⟨some 51, some (49, false), (.ofA (.load none (.tmp 50)))⟩
  (.seq ⟨some 52, some (49, false), (.ofA (.faddr 1 (.tmp 3)))⟩
  (.seq ⟨some 53, some (49, false), (.ofA (.load none (.tmp 52)))⟩
  (.seq ⟨some 54, some (49, false), (.call (.cst (.fn 151 [])) [(.tmp 51), (.cst (.v (.int .i64 1))), (.tmp 53)])⟩
  (.seq ⟨some 55, some (49, false), (.ofA (.un .not (.tmp 54)))⟩
  (.seq ⟨some 56, none, (.ofA (.pick (.tmp 49) (.cst (.v (.bool true))) (.tmp 55)))⟩
  (.seq ⟨some 57, none, (.ofA (.mv (.tmp 56)))⟩
  (.seq ⟨some 58, some (57, false), (.ofA (.mv (.tmp 8)))⟩
  (.seq ⟨some 59, some (57, false), (.ofA (.faddr 1 (.tmp 10)))⟩
  (.seq ⟨some 60, some (57, false), (.ofA (.load none (.tmp 59)))⟩
  (.seq ⟨some 61, some (57, false), (.ofA (.look (.int .i64) (.v (.bool false)) false (.tmp 58) (.tmp 60)))⟩
  (.seq ⟨some 62, none, (.ofA (.pick (.tmp 57) (.cst (.v (.bool true))) (.tmp 61)))⟩
  (.seq ⟨some 63, none, (.ofA (.mv (.tmp 62)))⟩
  (.seq ⟨some 64, some (63, false), (.ofA (.mv (.tmp 11)))⟩
  (.seq ⟨some 65, some (63, false), (.ofA (.bin .eql (.tmp 64) (.cst (.v (.int .i64 0)))))⟩
  (.seq ⟨some 66, none, (.ofA (.pick (.tmp 63) (.cst (.v (.bool true))) (.tmp 65)))⟩
  (.seq ⟨some 67, none, (.ofA (.mv (.tmp 66)))⟩
  (.seq ⟨some 68, some (67, false), (.ofA (.faddr 4 (.tmp 10)))⟩
  (.seq ⟨some 69, some (67, false), (.ofA (.load none (.tmp 68)))⟩
  (.seq ⟨some 70, some (67, false), (.ofA (.len (.tmp 69)))⟩
  (.seq ⟨some 71, some (67, false), (.ofA (.mv (.tmp 11)))⟩
  (.seq ⟨some 72, some (67, false), (.ofA (.mv (.tmp 1)))⟩
  (.seq ⟨some 73, some (67, false), (.ofA (.bin .sub (.tmp 72) (.cst (.v (.int .i64 2)))))⟩
  (.seq ⟨some 74, some (67, false), (.call (.cst (.fn 151 [])) [(.tmp 70), (.tmp 71), (.tmp 73)])⟩
  (.seq ⟨some 75, some (67, false), (.ofA (.un .not (.tmp 74)))⟩
  (.seq ⟨some 76, none, (.ofA (.pick (.tmp 67) (.cst (.v (.bool true))) (.tmp 75)))⟩
  .done))))))))))))))))))))))))))))))))
 (.cond (.tmp 76)
 (.seq (.tree (.seq ⟨some 6, none, (.ofA (.mv (.cst (.v (.int .i64 2)))))⟩
  .done))
 .ret)
 .skip))
 (.seq (.tree (.seq ⟨some 77, none, (.ofA (.mv (.tmp 8)))⟩
  (.seq ⟨some 78, none, (.ofA (.faddr 1 (.tmp 10)))⟩
  (.seq ⟨some 79, none, (.ofA (.load none (.tmp 78)))⟩
  (.seq ⟨none, none, (.mapUpd (.int .i64) (.tmp 77) (.tmp 79) (.cst (.v (.bool true))))⟩
  .done)))))
 (.seq (.tree (.seq ⟨some 80, none, (.ofA (.faddr 4 (.tmp 10)))⟩
  (.seq ⟨some 81, none, (.ofA (.load none (.tmp 80)))⟩
  (.seq ⟨some 82, none, (.ofA (.len (.tmp 81)))⟩
  (.seq ⟨some 83, none, (.ofA (.mv (.cst (.v (.int .i64 0)))))⟩
  .done)))))
 (.block 2 (.loop (.seq (.tree (.seq ⟨some 84, none, (.ofA (.bin .lss (.tmp 83) (.tmp 82)))⟩
  .done))
 (.seq (.cond (.tmp 84)
 .skip
 (.exit 2))
 (.seq (.block 3 (.seq (.tree (.seq ⟨some 85, none, (.ofA (.isl 1 (.tmp 81) (.tmp 83)))⟩
  (.seq ⟨some 86, none, (.ofA (.load none (.tmp 85)))⟩
  (.seq ⟨some 13, none, (.ofA (.mv (.tmp 86)))⟩
  .done))))
 (.seq (.seq (.tree (.seq ⟨some 87, none, (.ofA (.mv (.tmp 13)))⟩
  (.seq ⟨some 88, none, (.ofA (.mv (.tmp 1)))⟩
  (.seq ⟨some 89, none, (.ofA (.bin .sub (.tmp 88) (.cst (.v (.int .i64 1)))))⟩
  (.seq ⟨some 90, none, (.call (.cst (.fn 151 [])) [(.tmp 87), (.cst (.v (.int .i64 2))), (.tmp 89)])⟩
  (.seq ⟨some 91, none, (.ofA (.un .not (.tmp 90)))⟩
  (.seq ⟨some 92, none, (.ofA (.mv (.tmp 91)))⟩
  (.seq ⟨some 93, some (92, false), (.ofA (.mv (.tmp 7)))⟩
  (.seq ⟨some 94, some (92, false), (.ofA (.mv (.tmp 13)))⟩
  (.seq ⟨some 95, some (92, false), (.ofA (.look (.int .i64) (.v (.bool false)) false (.tmp 93) (.tmp 94)))⟩
  (.seq ⟨some 96, none, (.ofA (.pick (.tmp 92) (.cst (.v (.bool true))) (.tmp 95)))⟩
  .done)))))))))))
 (.cond (.tmp 96)
 (.seq (.tree (.seq ⟨some 6, none, (.ofA (.mv (.cst (.v (.int .i64 2)))))⟩
  .done))
 .ret)
 .skip))
 (.tree (.seq ⟨some 97, none, (.ofA (.mv (.tmp 7)))⟩
  (.seq ⟨some 98, none, (.ofA (.mv (.tmp 13)))⟩
  (.seq ⟨none, none, (.mapUpd (.int .i64) (.tmp 97) (.tmp 98) (.cst (.v (.bool true))))⟩
  .done)))))))
 (.tree (.seq ⟨some 99, none, (.ofA (.bin .add (.tmp 83) (.cst (.v (.int .i64 1)))))⟩
  (.seq ⟨some 83, none, (.ofA (.mv (.tmp 99)))⟩
  .done)))))))))))))))
 (.tree (.seq ⟨some 100, none, (.ofA (.bin .add (.tmp 30) (.cst (.v (.int .i64 1)))))⟩
  (.seq ⟨some 30, none, (.ofA (.mv (.tmp 100)))⟩
  .done)))))))))
 (.seq (.tree (.seq ⟨some 6, none, (.ofA (.mv (.cst (.v (.int .i64 0)))))⟩
  .done))
 .ret))))))
def r232 : List XR := [.tmp 6]
theorem fn232 : FnX Tryz.prog 232 EFF 101 x232 r232 := ⟨_, Tryz.func232, by kernel_rfl, by kernel_rfl, by kernel_rfl, by kernel_rfl⟩
-- almshouse/snap.tenant (2 parameters)
def x233 : XC := (.seq (.tree (.seq ⟨some 3, none, (.box (.tmp 1))⟩
  (.seq ⟨some 4, none, (.ofA (.mv (.cst (.v (.slice none 0 0)))))⟩
  .done)))
 (.seq (.seq (.tree (.seq ⟨some 7, none, (.ofA (.faddr 0 (.tmp 3)))⟩
  (.seq ⟨some 8, none, (.ofA (.load none (.tmp 7)))⟩
  (.seq ⟨some 9, none, (.ofA (.un .not (.tmp 8)))⟩
  .done))))
 (.cond (.tmp 9)
 (.seq (.tree (.seq ⟨some 10, none, (.ofA (.mv (.tmp 0)))⟩
  (.seq ⟨some 11, none, (.call (.cst (.fn 214 [])) [(.tmp 10), (.cst (.v (.int .i64 0))), (.cst (.v (.int .i64 1)))])⟩
  (.seq ⟨some 4, none, (.ofA (.mv (.tmp 11)))⟩
  .done))))
 .ret)
 .skip))
 (.seq (.tree (.take ⟨some 12, none, (.ofA (.mv (.tmp 0)))⟩
  (.take ⟨some 14, none, (.ofA (.faddr 1 (.tmp 3)))⟩
  (.take ⟨some 15, none, (.ofA (.load none (.tmp 14)))⟩
  (.act true [(⟨some 13, none, (.call (.cst (.fn 214 [])) [(.tmp 12), (.cst (.v (.int .i64 1))), (.cst (.v (.int .i64 1)))])⟩,
 (.act true [(⟨some 16, none, (.call (.cst (.fn 214 [])) [(.tmp 13), (.tmp 15), (.cst (.v (.int .i64 4)))])⟩,
 (.take ⟨some 0, none, (.ofA (.mv (.tmp 16)))⟩
  .done))]))])))))
 (.seq (.seq (.tree (.seq ⟨some 17, none, (.ofA (.faddr 2 (.tmp 3)))⟩
  (.seq ⟨some 18, none, (.ofA (.load none (.tmp 17)))⟩
  (.seq ⟨some 19, none, (.ofA (.faddr 3 (.tmp 3)))⟩
  (.seq ⟨some 20, none, (.ofA (.load none (.tmp 19)))⟩
  (.seq ⟨some 21, none, (.ofA (.faddr 4 (.tmp 3)))⟩
  (.seq ⟨some 22, none, (.ofA (.load none (.tmp 21)))⟩
  (.seq ⟨some 23, none, (.ofA (.len (.tmp 22)))⟩
  (.seq ⟨some 24, none, (.buildSl 1 3 [(.v (.int .i64 0)), (.v (.int .i64 0)), (.v (.int .i64 0))] [(0, 1, (.tmp 18)), (1, 1, (.tmp 20)), (2, 1, (.tmp 23))])⟩
  (.seq ⟨some 25, none, (.ofA (.faddr 4 (.tmp 3)))⟩
  (.seq ⟨some 26, none, (.ofA (.load none (.tmp 25)))⟩
  (.seq ⟨some 27, none, (.app 1 8 (.tmp 24) (.tmp 26))⟩
  (.seq ⟨some 28, none, (.ofA (.len (.tmp 27)))⟩
  (.seq ⟨some 29, none, (.ofA (.mv (.cst (.v (.int .i64 0)))))⟩
  .done))))))))))))))
 (.block 0 (.loop (.seq (.tree (.seq ⟨some 30, none, (.ofA (.bin .lss (.tmp 29) (.tmp 28)))⟩
  .done))
 (.seq (.cond (.tmp 30)
 .skip
 (.exit 0))
 (.seq (.block 1 (.seq (.tree (.seq ⟨some 31, none, (.ofA (.isl 1 (.tmp 27) (.tmp 29)))⟩
  (.seq ⟨some 32, none, (.ofA (.load none (.tmp 31)))⟩
  (.seq ⟨some 6, none, (.ofA (.mv (.tmp 32)))⟩
  .done))))
 (.tree (.seq ⟨some 33, none, (.ofA (.mv (.tmp 0)))⟩
  (.seq ⟨some 34, none, (.ofA (.mv (.tmp 6)))⟩
  (.seq ⟨some 35, none, (.call (.cst (.fn 214 [])) [(.tmp 33), (.tmp 34), (.cst (.v (.int .i64 1)))])⟩
  (.seq ⟨some 0, none, (.ofA (.mv (.tmp 35)))⟩
  .done)))))))
 (.tree (.seq ⟨some 36, none, (.ofA (.bin .add (.tmp 29) (.cst (.v (.int .i64 1)))))⟩
  (.seq ⟨some 29, none, (.ofA (.mv (.tmp 36)))⟩
  .done)))))))))
 (.seq (.tree (.seq ⟨some 37, none, (.ofA (.mv (.tmp 0)))⟩
  (.seq ⟨some 4, none, (.ofA (.mv (.tmp 37)))⟩
  .done)))
 .ret)))))
def r233 : List XR := [.tmp 4]
theorem fn233 : FnX Tryz.prog 233 EFF 38 x233 r233 := ⟨_, Tryz.func233, by kernel_rfl, by kernel_rfl, by kernel_rfl, by kernel_rfl⟩
-- slices.ContainsFunc[[]almshouse/api.Found,almshouse/api.Found] (2 parameters)
def x237 : XC := (.seq (.tree (.seq ⟨some 4, none, (.ofA (.mv (.cst (.v (.bool false)))))⟩
  .done))
 (.seq (.tree (.seq ⟨some 5, none, (.ofA (.mv (.tmp 0)))⟩
  (.seq ⟨some 6, none, (.ofA (.mv (.tmp 1)))⟩
  (.seq ⟨some 7, none, (.call (.cst (.fn 257 [])) [(.tmp 5), (.tmp 6)])⟩
  (.seq ⟨some 8, none, (.ofA (.bin .geq (.tmp 7) (.cst (.v (.int .i64 0)))))⟩
  (.seq ⟨some 4, none, (.ofA (.mv (.tmp 8)))⟩
  .done))))))
 .ret))
def r237 : List XR := [.tmp 4]
theorem fn237 : FnX Tryz.prog 237 EFF 9 x237 r237 := ⟨_, Tryz.func237, by kernel_rfl, by kernel_rfl, by kernel_rfl, by kernel_rfl⟩
-- cmp.Or[int] (1 parameters)
def x239 : XC := (.seq (.tree (.seq ⟨some 2, none, (.ofA (.mv (.cst (.v (.int .i64 0)))))⟩
  .done))
 (.seq (.tree (.seq ⟨some 3, none, (.ofA (.mv (.cst (.v (.int .i64 0)))))⟩
  .done))
 (.seq (.seq (.tree (.seq ⟨some 6, none, (.ofA (.mv (.tmp 0)))⟩
  (.seq ⟨some 7, none, (.ofA (.len (.tmp 6)))⟩
  (.seq ⟨some 8, none, (.ofA (.mv (.cst (.v (.int .i64 0)))))⟩
  .done))))
 (.block 0 (.loop (.seq (.tree (.seq ⟨some 9, none, (.ofA (.bin .lss (.tmp 8) (.tmp 7)))⟩
  .done))
 (.seq (.cond (.tmp 9)
 .skip
 (.exit 0))
 (.seq (.block 1 (.seq (.tree (.seq ⟨some 10, none, (.ofA (.isl 1 (.tmp 6) (.tmp 8)))⟩
  (.seq ⟨some 11, none, (.ofA (.load none (.tmp 10)))⟩
  (.seq ⟨some 5, none, (.ofA (.mv (.tmp 11)))⟩
  .done))))
 (.seq (.tree (.seq ⟨some 12, none, (.ofA (.mv (.tmp 5)))⟩
  (.seq ⟨some 13, none, (.ofA (.mv (.tmp 3)))⟩
  (.seq ⟨some 14, none, (.ofA (.bin .neq (.tmp 12) (.tmp 13)))⟩
  .done))))
 (.cond (.tmp 14)
 (.seq (.tree (.seq ⟨some 15, none, (.ofA (.mv (.tmp 5)))⟩
  (.seq ⟨some 2, none, (.ofA (.mv (.tmp 15)))⟩
  .done)))
 .ret)
 .skip))))
 (.tree (.seq ⟨some 16, none, (.ofA (.bin .add (.tmp 8) (.cst (.v (.int .i64 1)))))⟩
  (.seq ⟨some 8, none, (.ofA (.mv (.tmp 16)))⟩
  .done)))))))))
 (.seq (.tree (.seq ⟨some 17, none, (.ofA (.mv (.tmp 3)))⟩
  (.seq ⟨some 2, none, (.ofA (.mv (.tmp 17)))⟩
  .done)))
 .ret))))
def r239 : List XR := [.tmp 2]
theorem fn239 : FnX Tryz.prog 239 EFF 18 x239 r239 := ⟨_, Tryz.func239, by kernel_rfl, by kernel_rfl, by kernel_rfl, by kernel_rfl⟩
-- slices.pdqsortCmpFunc[almshouse/heal.Spot] (5 parameters)
def x240 : XC := (.seq (.tree (.seq ⟨some 10, none, (.ofA (.mv (.cst (.v (.bool true)))))⟩
  .done))
 (.seq (.tree (.seq ⟨some 11, none, (.ofA (.mv (.cst (.v (.bool true)))))⟩
  .done))
 (.block 0 (.loop (.block 1 (.seq (.tree (.seq ⟨some 21, none, (.ofA (.mv (.tmp 2)))⟩
  (.seq ⟨some 22, none, (.ofA (.mv (.tmp 1)))⟩
  (.seq ⟨some 23, none, (.ofA (.bin .sub (.tmp 21) (.tmp 22)))⟩
  (.seq ⟨some 12, none, (.ofA (.mv (.tmp 23)))⟩
  .done)))))
 (.seq (.seq (.tree (.seq ⟨some 24, none, (.ofA (.mv (.tmp 12)))⟩
  (.seq ⟨some 25, none, (.ofA (.bin .leq (.tmp 24) (.cst (.v (.int .i64 12)))))⟩
  .done)))
 (.cond (.tmp 25)
 (.seq (.tree (.seq ⟨some 26, none, (.ofA (.mv (.tmp 0)))⟩
  (.seq ⟨some 27, none, (.ofA (.mv (.tmp 1)))⟩
  (.seq ⟨some 28, none, (.ofA (.mv (.tmp 2)))⟩
  (.seq ⟨some 29, none, (.ofA (.mv (.tmp 4)))⟩
  (.seq ⟨some 30, none, (.call (.cst (.fn 258 [])) [(.tmp 26), (.tmp 27), (.tmp 28), (.tmp 29)])⟩
  .done))))))
 .ret)
 .skip))
 (.seq (.seq (.tree (.seq ⟨some 31, none, (.ofA (.mv (.tmp 3)))⟩
  (.seq ⟨some 32, none, (.ofA (.bin .eql (.tmp 31) (.cst (.v (.int .i64 0)))))⟩
  .done)))
 (.cond (.tmp 32)
 (.seq (.tree (.seq ⟨some 33, none, (.ofA (.mv (.tmp 0)))⟩
  (.seq ⟨some 34, none, (.ofA (.mv (.tmp 1)))⟩
  (.seq ⟨some 35, none, (.ofA (.mv (.tmp 2)))⟩
  (.seq ⟨some 36, none, (.ofA (.mv (.tmp 4)))⟩
  (.seq ⟨some 37, none, (.call (.cst (.fn 259 [])) [(.tmp 33), (.tmp 34), (.tmp 35), (.tmp 36)])⟩
  .done))))))
 .ret)
 .skip))
 (.seq (.seq (.tree (.seq ⟨some 38, none, (.ofA (.mv (.tmp 10)))⟩
  (.seq ⟨some 39, none, (.ofA (.un .not (.tmp 38)))⟩
  .done)))
 (.cond (.tmp 39)
 (.seq (.tree (.seq ⟨some 40, none, (.ofA (.mv (.tmp 0)))⟩
  (.seq ⟨some 41, none, (.ofA (.mv (.tmp 1)))⟩
  (.seq ⟨some 42, none, (.ofA (.mv (.tmp 2)))⟩
  (.seq ⟨some 43, none, (.ofA (.mv (.tmp 4)))⟩
  (.seq ⟨some 44, none, (.call (.cst (.fn 260 [])) [(.tmp 40), (.tmp 41), (.tmp 42), (.tmp 43)])⟩
  .done))))))
 (.tree (.seq ⟨some 45, none, (.ofA (.mv (.tmp 3)))⟩
  (.seq ⟨some 46, none, (.ofA (.bin .sub (.tmp 45) (.cst (.v (.int .i64 1)))))⟩
  (.seq ⟨some 3, none, (.ofA (.mv (.tmp 46)))⟩
  .done)))))
 .skip))
 (.seq (.tree (.seq ⟨some 48, none, (.ofA (.mv (.tmp 0)))⟩
  (.seq ⟨some 49, none, (.ofA (.mv (.tmp 1)))⟩
  (.seq ⟨some 50, none, (.ofA (.mv (.tmp 2)))⟩
  (.seq ⟨some 51, none, (.ofA (.mv (.tmp 4)))⟩
  (.seq ⟨some 52, none, (.call (.cst (.fn 261 [])) [(.tmp 48), (.tmp 49), (.tmp 50), (.tmp 51)])⟩
  (.seq ⟨some 47, none, (.ofA (.mv (.tmp 52)))⟩
  (.seq ⟨some 53, none, (.ofA (.extract 0 (.tmp 47)))⟩
  (.seq ⟨some 54, none, (.ofA (.extract 1 (.tmp 47)))⟩
  (.seq ⟨some 13, none, (.ofA (.mv (.tmp 53)))⟩
  (.seq ⟨some 14, none, (.ofA (.mv (.tmp 54)))⟩
  .done)))))))))))
 (.seq (.seq (.tree (.seq ⟨some 55, none, (.ofA (.mv (.tmp 14)))⟩
  (.seq ⟨some 56, none, (.ofA (.bin .eql (.tmp 55) (.cst (.v (.int .i64 2)))))⟩
  .done)))
 (.cond (.tmp 56)
 (.seq (.tree (.seq ⟨some 57, none, (.ofA (.mv (.tmp 0)))⟩
  (.seq ⟨some 58, none, (.ofA (.mv (.tmp 1)))⟩
  (.seq ⟨some 59, none, (.ofA (.mv (.tmp 2)))⟩
  (.seq ⟨some 60, none, (.ofA (.mv (.tmp 4)))⟩
  (.seq ⟨some 61, none, (.call (.cst (.fn 262 [])) [(.tmp 57), (.tmp 58), (.tmp 59), (.tmp 60)])⟩
  .done))))))
 (.seq (.tree (.seq ⟨some 62, none, (.ofA (.mv (.tmp 2)))⟩
  (.seq ⟨some 63, none, (.ofA (.bin .sub (.tmp 62) (.cst (.v (.int .i64 1)))))⟩
  (.seq ⟨some 64, none, (.ofA (.mv (.tmp 13)))⟩
  (.seq ⟨some 65, none, (.ofA (.mv (.tmp 1)))⟩
  (.seq ⟨some 66, none, (.ofA (.bin .sub (.tmp 64) (.tmp 65)))⟩
  (.seq ⟨some 67, none, (.ofA (.bin .sub (.tmp 63) (.tmp 66)))⟩
  (.seq ⟨some 13, none, (.ofA (.mv (.tmp 67)))⟩
  .done))))))))
 (.tree (.seq ⟨some 14, none, (.ofA (.mv (.cst (.v (.int .i64 1)))))⟩
  .done))))
 .skip))
 (.seq (.seq (.tree (.seq ⟨some 68, none, (.ofA (.mv (.tmp 10)))⟩
  (.seq ⟨some 69, none, (.ofA (.mv (.tmp 68)))⟩
  (.seq ⟨some 70, some (69, true), (.ofA (.mv (.tmp 11)))⟩
  (.seq ⟨some 71, none, (.ofA (.pick (.tmp 69) (.tmp 70) (.cst (.v (.bool false)))))⟩
  (.seq ⟨some 72, none, (.ofA (.mv (.tmp 71)))⟩
  (.seq ⟨some 73, some (72, true), (.ofA (.mv (.tmp 14)))⟩
  (.seq ⟨some 74, some (72, true), (.ofA (.bin .eql (.tmp 73) (.cst (.v (.int .i64 1)))))⟩
  (.seq ⟨some 75, none, (.ofA (.pick (.tmp 72) (.tmp 74) (.cst (.v (.bool false)))))⟩
  .done)))))))))
 (.cond (.tmp 75)
 (.seq (.tree (.seq ⟨some 76, none, (.ofA (.mv (.tmp 0)))⟩
  (.seq ⟨some 77, none, (.ofA (.mv (.tmp 1)))⟩
  (.seq ⟨some 78, none, (.ofA (.mv (.tmp 2)))⟩
  (.seq ⟨some 79, none, (.ofA (.mv (.tmp 4)))⟩
  (.seq ⟨some 80, none, (.call (.cst (.fn 263 [])) [(.tmp 76), (.tmp 77), (.tmp 78), (.tmp 79)])⟩
  .done))))))
 (.cond (.tmp 80)
 .ret
 .skip))
 .skip))
 (.seq (.seq (.tree (.take ⟨some 81, none, (.ofA (.mv (.tmp 1)))⟩
  (.take ⟨some 82, none, (.ofA (.bin .gtr (.tmp 81) (.cst (.v (.int .i64 0)))))⟩
  (.take ⟨some 83, none, (.ofA (.mv (.tmp 82)))⟩
  (.take ⟨some 84, some (83, true), (.ofA (.mv (.tmp 4)))⟩
  (.take ⟨some 85, some (83, true), (.ofA (.mv (.tmp 0)))⟩
  (.take ⟨some 86, some (83, true), (.ofA (.mv (.tmp 1)))⟩
  (.take ⟨some 87, some (83, true), (.ofA (.bin .sub (.tmp 86) (.cst (.v (.int .i64 1)))))⟩
  (.take ⟨some 88, some (83, true), (.ofA (.isl 3 (.tmp 85) (.tmp 87)))⟩
  (.take ⟨some 89, some (83, true), (.ofA (.load (some 3) (.tmp 88)))⟩
  (.take ⟨some 90, some (83, true), (.ofA (.mv (.tmp 0)))⟩
  (.take ⟨some 91, some (83, true), (.ofA (.mv (.tmp 13)))⟩
  (.take ⟨some 92, some (83, true), (.ofA (.isl 3 (.tmp 90) (.tmp 91)))⟩
  (.take ⟨some 93, some (83, true), (.ofA (.load (some 3) (.tmp 92)))⟩
  (.alt [false] [(⟨some 94, some (83, true), (.call (.tmp 84) [(.tmp 89), (.tmp 93)])⟩,
 (.take ⟨some 95, some (83, true), (.ofA (.bin .lss (.tmp 94) (.cst (.v (.int .i64 0)))))⟩
  (.take ⟨some 96, some (83, true), (.ofA (.un .not (.tmp 95)))⟩
  (.take ⟨some 97, none, (.ofA (.pick (.tmp 83) (.tmp 96) (.cst (.v (.bool false)))))⟩
  .done))))])))))))))))))))
 (.cond (.tmp 97)
 (.seq (.tree (.seq ⟨some 98, none, (.ofA (.mv (.tmp 0)))⟩
  (.seq ⟨some 99, none, (.ofA (.mv (.tmp 1)))⟩
  (.seq ⟨some 100, none, (.ofA (.mv (.tmp 2)))⟩
  (.seq ⟨some 101, none, (.ofA (.mv (.tmp 13)))⟩
  (.seq ⟨some 102, none, (.ofA (.mv (.tmp 4)))⟩
  (.seq ⟨some 103, none, (.call (.cst (.fn 264 [])) [(.tmp 98), (.tmp 99), (.tmp 100), (.tmp 101), (.tmp 102)])⟩
  (.seq ⟨some 15, none, (.ofA (.mv (.tmp 103)))⟩
  .done))))))))
 (.seq (.tree (.seq ⟨some 104, none, (.ofA (.mv (.tmp 15)))⟩
  (.seq ⟨some 1, none, (.ofA (.mv (.tmp 104)))⟩
  .done)))
 (.exit 1)))
 .skip))
 (.seq (.tree (.seq ⟨some 106, none, (.ofA (.mv (.tmp 0)))⟩
  (.seq ⟨some 107, none, (.ofA (.mv (.tmp 1)))⟩
  (.seq ⟨some 108, none, (.ofA (.mv (.tmp 2)))⟩
  (.seq ⟨some 109, none, (.ofA (.mv (.tmp 13)))⟩
  (.seq ⟨some 110, none, (.ofA (.mv (.tmp 4)))⟩
  (.seq ⟨some 111, none, (.call (.cst (.fn 265 [])) [(.tmp 106), (.tmp 107), (.tmp 108), (.tmp 109), (.tmp 110)])⟩
  (.seq ⟨some 105, none, (.ofA (.mv (.tmp 111)))⟩
  (.seq ⟨some 112, none, (.ofA (.extract 0 (.tmp 105)))⟩
  (.seq ⟨some 113, none, (.ofA (.extract 1 (.tmp 105)))⟩
  (.seq ⟨some 16, none, (.ofA (.mv (.tmp 112)))⟩
  (.seq ⟨some 17, none, (.ofA (.mv (.tmp 113)))⟩
  .done))))))))))))
 (.seq (.tree (.seq ⟨some 114, none, (.ofA (.mv (.tmp 17)))⟩
  (.seq ⟨some 11, none, (.ofA (.mv (.tmp 114)))⟩
  .done)))
 (.seq (.tree (.seq ⟨some 115, none, (.ofA (.mv (.tmp 16)))⟩
  (.seq ⟨some 116, none, (.ofA (.mv (.tmp 1)))⟩
  (.seq ⟨some 117, none, (.ofA (.bin .sub (.tmp 115) (.tmp 116)))⟩
  (.seq ⟨some 118, none, (.ofA (.mv (.tmp 2)))⟩
  (.seq ⟨some 119, none, (.ofA (.mv (.tmp 16)))⟩
  (.seq ⟨some 120, none, (.ofA (.bin .sub (.tmp 118) (.tmp 119)))⟩
  (.seq ⟨some 18, none, (.ofA (.mv (.tmp 117)))⟩
  (.seq ⟨some 19, none, (.ofA (.mv (.tmp 120)))⟩
  .done)))))))))
 (.seq (.tree (.seq ⟨some 121, none, (.ofA (.mv (.tmp 12)))⟩
  (.seq ⟨some 122, none, (.ofA (.bin .quo (.tmp 121) (.cst (.v (.int .i64 8)))))⟩
  (.seq ⟨some 20, none, (.ofA (.mv (.tmp 122)))⟩
  .done))))
 (.seq (.tree (.seq ⟨some 123, none, (.ofA (.mv (.tmp 18)))⟩
  (.seq ⟨some 124, none, (.ofA (.mv (.tmp 19)))⟩
  (.seq ⟨some 125, none, (.ofA (.bin .lss (.tmp 123) (.tmp 124)))⟩
  .done))))
 (.cond (.tmp 125)
 (.seq (.tree (.seq ⟨some 126, none, (.ofA (.mv (.tmp 18)))⟩
  (.seq ⟨some 127, none, (.ofA (.mv (.tmp 20)))⟩
  (.seq ⟨some 128, none, (.ofA (.bin .geq (.tmp 126) (.tmp 127)))⟩
  (.seq ⟨some 10, none, (.ofA (.mv (.tmp 128)))⟩
  .done)))))
 (.seq (.tree (.seq ⟨some 129, none, (.ofA (.mv (.tmp 0)))⟩
  (.seq ⟨some 130, none, (.ofA (.mv (.tmp 1)))⟩
  (.seq ⟨some 131, none, (.ofA (.mv (.tmp 16)))⟩
  (.seq ⟨some 132, none, (.ofA (.mv (.tmp 3)))⟩
  (.seq ⟨some 133, none, (.ofA (.mv (.tmp 4)))⟩
  (.seq ⟨some 134, none, (.call (.cst (.fn 240 [])) [(.tmp 129), (.tmp 130), (.tmp 131), (.tmp 132), (.tmp 133)])⟩
  .done)))))))
 (.tree (.seq ⟨some 135, none, (.ofA (.mv (.tmp 16)))⟩
  (.seq ⟨some 136, none, (.ofA (.bin .add (.tmp 135) (.cst (.v (.int .i64 1)))))⟩
  (.seq ⟨some 1, none, (.ofA (.mv (.tmp 136)))⟩
  .done))))))
 (.seq (.tree (.seq ⟨some 137, none, (.ofA (.mv (.tmp 19)))⟩
  (.seq ⟨some 138, none, (.ofA (.mv (.tmp 20)))⟩
  (.seq ⟨some 139, none, (.ofA (.bin .geq (.tmp 137) (.tmp 138)))⟩
  (.seq ⟨some 10, none, (.ofA (.mv (.tmp 139)))⟩
  .done)))))
 (.seq (.tree (.seq ⟨some 140, none, (.ofA (.mv (.tmp 0)))⟩
  (.seq ⟨some 141, none, (.ofA (.mv (.tmp 16)))⟩
  (.seq ⟨some 142, none, (.ofA (.bin .add (.tmp 141) (.cst (.v (.int .i64 1)))))⟩
  (.seq ⟨some 143, none, (.ofA (.mv (.tmp 2)))⟩
  (.seq ⟨some 144, none, (.ofA (.mv (.tmp 3)))⟩
  (.seq ⟨some 145, none, (.ofA (.mv (.tmp 4)))⟩
  (.seq ⟨some 146, none, (.call (.cst (.fn 240 [])) [(.tmp 140), (.tmp 142), (.tmp 143), (.tmp 144), (.tmp 145)])⟩
  .done))))))))
 (.tree (.seq ⟨some 147, none, (.ofA (.mv (.tmp 16)))⟩
  (.seq ⟨some 2, none, (.ofA (.mv (.tmp 147)))⟩
  .done))))))))))))))))))))))))
def r240 : List XR := []
theorem fn240 : FnX Tryz.prog 240 EFF 148 x240 r240 := ⟨_, Tryz.func240, by kernel_rfl, by kernel_rfl, by kernel_rfl, by kernel_rfl⟩
-- cmp.isNaN[int] (1 parameters)
def x241 : XC := (.seq (.tree (.seq ⟨some 2, none, (.ofA (.mv (.cst (.v (.bool false)))))⟩
  .done))
 (.seq (.tree (.seq ⟨some 3, none, (.ofA (.mv (.tmp 0)))⟩
  (.seq ⟨some 4, none, (.ofA (.mv (.tmp 0)))⟩
  (.seq ⟨some 5, none, (.ofA (.bin .neq (.tmp 3) (.tmp 4)))⟩
  (.seq ⟨some 2, none, (.ofA (.mv (.tmp 5)))⟩
  .done)))))
 .ret))
def r241 : List XR := [.tmp 2]
theorem fn241 : FnX Tryz.prog 241 EFF 6 x241 r241 := ⟨_, Tryz.func241, by kernel_rfl, by kernel_rfl, by kernel_rfl, by kernel_rfl⟩
-- almshouse/warden.slots (2 parameters)
def x242 : XC := (.seq (.tree (.seq ⟨some 4, none, (.ofA (.mv (.cst (.v (.int .i64 0)))))⟩
  .done))
 (.seq (.block 0 (.seq (.tree (.seq ⟨some 6, none, (.ofA (.mv (.tmp 1)))⟩
  (.seq ⟨some 7, none, (.ofA (.bin .lss (.tmp 6) (.cst (.v (.int .i64 0)))))⟩
  (.seq ⟨some 8, none, (.ofA (.mv (.tmp 7)))⟩
  (.seq ⟨some 9, some (8, false), (.ofA (.mv (.tmp 1)))⟩
  (.seq ⟨some 10, some (8, false), (.ofA (.bin .gtr (.tmp 9) (.cst (.v (.int .i64 4096)))))⟩
  (.seq ⟨some 11, none, (.ofA (.pick (.tmp 8) (.cst (.v (.bool true))) (.tmp 10)))⟩
  (.seq ⟨some 5, none, (.ofA (.mv (.tmp 11)))⟩
  .done))))))))
 (.cond (.tmp 5)
 (.seq (.tree (.seq ⟨some 4, none, (.ofA (.mv (.cst (.v (.int .i64 5)))))⟩
  .done))
 .ret)
 (.seq (.tree (.seq ⟨some 13, none, (.ofA (.mv (.tmp 0)))⟩
  (.seq ⟨some 14, none, (.call (.cst (.fn 36 [])) [(.tmp 13)])⟩
  (.seq ⟨some 15, none, (.ofA (.un .not (.tmp 14)))⟩
  (.seq ⟨some 12, none, (.ofA (.mv (.tmp 15)))⟩
  .done)))))
 (.cond (.tmp 12)
 (.seq (.tree (.seq ⟨some 4, none, (.ofA (.mv (.cst (.v (.int .i64 12)))))⟩
  .done))
 .ret)
 .skip)))))
 (.seq (.seq (.tree (.seq ⟨some 16, none, (.ofA (.mv (.tmp 1)))⟩
  (.seq ⟨some 17, none, (.ofA (.mv (.cst (.v (.int .i64 0)))))⟩
  .done)))
 (.block 1 (.loop (.seq (.tree (.seq ⟨some 18, none, (.ofA (.bin .lss (.tmp 17) (.tmp 16)))⟩
  .done))
 (.seq (.cond (.tmp 18)
 .skip
 (.exit 1))
 (.seq (.block 2 (.tree (.seq ⟨some 19, none, (.ofA (.mv (.tmp 0)))⟩
  (.seq ⟨some 20, none, (.call (.cst (.fn 35 [])) [(.tmp 19)])⟩
  .done))))
 (.tree (.seq ⟨some 21, none, (.ofA (.bin .add (.tmp 17) (.cst (.v (.int .i64 1)))))⟩
  (.seq ⟨some 17, none, (.ofA (.mv (.tmp 21)))⟩
  .done)))))))))
 (.seq (.tree (.seq ⟨some 4, none, (.ofA (.mv (.cst (.v (.int .i64 0)))))⟩
  .done))
 .ret))))
def r242 : List XR := [.tmp 4]
theorem fn242 : FnX Tryz.prog 242 EFF 22 x242 r242 := ⟨_, Tryz.func242, by kernel_rfl, by kernel_rfl, by kernel_rfl, by kernel_rfl⟩
-- almshouse/warden.admin (2 parameters)
def x244 : XC := (.seq (.tree (.seq ⟨some 3, none, (.box (.tmp 1))⟩
  (.seq ⟨some 4, none, (.ofA (.mv (.cst (.v (.int .i64 0)))))⟩
  (.seq ⟨some 5, none, (.ofA (.mv (.cst (.v (.bool false)))))⟩
  .done))))
 (.seq (.seq (.tree (.seq ⟨some 6, none, (.ofA (.faddr 0 (.tmp 3)))⟩
  (.seq ⟨some 7, none, (.ofA (.load none (.tmp 6)))⟩
  .done)))
 (.block 0 (.seq (.tree (.seq ⟨some 9, none, (.ofA (.bin .eql (.tmp 7) (.cst (.v (.int .i64 1)))))⟩
  (.seq ⟨some 8, none, (.ofA (.mv (.tmp 9)))⟩
  .done)))
 (.cond (.tmp 8)
 (.seq (.tree (.seq ⟨some 10, none, (.ofA (.mv (.tmp 0)))⟩
  (.seq ⟨some 11, none, (.ofA (.faddr 1 (.tmp 3)))⟩
  (.seq ⟨some 12, none, (.ofA (.load none (.tmp 11)))⟩
  (.seq ⟨some 13, none, (.ofA (.faddr 3 (.tmp 3)))⟩
  (.seq ⟨some 14, none, (.ofA (.load none (.tmp 13)))⟩
  (.seq ⟨some 15, none, (.ofA (.faddr 4 (.tmp 3)))⟩
  (.seq ⟨some 16, none, (.ofA (.load none (.tmp 15)))⟩
  (.seq ⟨some 17, none, (.call (.cst (.fn 29 [])) [(.tmp 10), (.tmp 12), (.tmp 14), (.tmp 16)])⟩
  (.seq ⟨some 4, none, (.ofA (.mv (.tmp 17)))⟩
  (.seq ⟨some 5, none, (.ofA (.mv (.cst (.v (.bool true)))))⟩
  .done)))))))))))
 .ret)
 (.seq (.tree (.seq ⟨some 19, none, (.ofA (.bin .eql (.tmp 7) (.cst (.v (.int .i64 2)))))⟩
  (.seq ⟨some 18, none, (.ofA (.mv (.tmp 19)))⟩
  .done)))
 (.cond (.tmp 18)
 (.seq (.tree (.seq ⟨some 20, none, (.ofA (.mv (.tmp 0)))⟩
  (.seq ⟨some 21, none, (.ofA (.faddr 1 (.tmp 3)))⟩
  (.seq ⟨some 22, none, (.ofA (.load none (.tmp 21)))⟩
  (.seq ⟨some 23, none, (.ofA (.faddr 3 (.tmp 3)))⟩
  (.seq ⟨some 24, none, (.ofA (.load none (.tmp 23)))⟩
  (.seq ⟨some 25, none, (.call (.cst (.fn 31 [])) [(.tmp 20), (.tmp 22), (.tmp 24)])⟩
  (.seq ⟨some 4, none, (.ofA (.mv (.tmp 25)))⟩
  (.seq ⟨some 5, none, (.ofA (.mv (.cst (.v (.bool true)))))⟩
  .done)))))))))
 .ret)
 (.seq (.tree (.seq ⟨some 27, none, (.ofA (.bin .eql (.tmp 7) (.cst (.v (.int .i64 3)))))⟩
  (.seq ⟨some 26, none, (.ofA (.mv (.tmp 27)))⟩
  .done)))
 (.cond (.tmp 26)
 (.seq (.tree (.seq ⟨some 28, none, (.ofA (.mv (.tmp 0)))⟩
  (.seq ⟨some 29, none, (.ofA (.faddr 1 (.tmp 3)))⟩
  (.seq ⟨some 30, none, (.ofA (.load none (.tmp 29)))⟩
  (.seq ⟨some 31, none, (.call (.cst (.fn 30 [])) [(.tmp 28), (.tmp 30)])⟩
  (.seq ⟨some 4, none, (.ofA (.mv (.tmp 31)))⟩
  (.seq ⟨some 5, none, (.ofA (.mv (.cst (.v (.bool true)))))⟩
  .done)))))))
 .ret)
 (.seq (.tree (.seq ⟨some 33, none, (.ofA (.bin .eql (.tmp 7) (.cst (.v (.int .i64 4)))))⟩
  (.seq ⟨some 32, none, (.ofA (.mv (.tmp 33)))⟩
  .done)))
 (.cond (.tmp 32)
 (.seq (.tree (.seq ⟨some 34, none, (.ofA (.mv (.tmp 0)))⟩
  (.seq ⟨some 35, none, (.ofA (.faddr 1 (.tmp 3)))⟩
  (.seq ⟨some 36, none, (.ofA (.load none (.tmp 35)))⟩
  (.seq ⟨some 37, none, (.ofA (.faddr 2 (.tmp 3)))⟩
  (.seq ⟨some 38, none, (.ofA (.load none (.tmp 37)))⟩
  (.seq ⟨some 39, none, (.call (.cst (.fn 32 [])) [(.tmp 34), (.tmp 36), (.tmp 38)])⟩
  (.seq ⟨some 4, none, (.ofA (.mv (.tmp 39)))⟩
  (.seq ⟨some 5, none, (.ofA (.mv (.cst (.v (.bool true)))))⟩
  .done)))))))))
 .ret)
 .skip))))))))))
 (.seq (.tree (.seq ⟨some 4, none, (.ofA (.mv (.cst (.v (.int .i64 1)))))⟩
  (.seq ⟨some 5, none, (.ofA (.mv (.cst (.v (.bool false)))))⟩
  .done)))
 .ret)))
def r244 : List XR := [.tmp 4, .tmp 5]
theorem fn244 : FnX Tryz.prog 244 EFF 40 x244 r244 := ⟨_, Tryz.func244, by kernel_rfl, by kernel_rfl, by kernel_rfl, by kernel_rfl⟩
-- (*almshouse/word.Reader).Left (1 parameters)
def x245 : XC := (.seq (.tree (.seq ⟨some 2, none, (.ofA (.mv (.cst (.v (.int .i64 0)))))⟩
  .done))
 (.seq (.seq (.tree (.seq ⟨some 3, none, (.ofA (.mv (.tmp 0)))⟩
  (.seq ⟨some 4, none, (.ofA (.eqn false 1 (.tmp 3) (.cst (.v (.pointer none)))))⟩
  .done)))
 (.cond (.tmp 4)
 (.seq (.tree (.seq ⟨some 2, none, (.ofA (.mv (.cst (.v (.int .i64 0)))))⟩
  .done))
 .ret)
 .skip))
 (.seq (.tree (.seq ⟨some 5, none, (.ofA (.mv (.tmp 0)))⟩
  (.seq ⟨some 6, none, (.ofA (.nilc (.tmp 5)))⟩
  (.seq ⟨some 7, none, (.ofA (.faddr 0 (.tmp 6)))⟩
  (.seq ⟨some 8, none, (.ofA (.load none (.tmp 7)))⟩
  (.seq ⟨some 9, none, (.ofA (.len (.tmp 8)))⟩
  (.seq ⟨some 2, none, (.ofA (.mv (.tmp 9)))⟩
  .done)))))))
 .ret)))
def r245 : List XR := [.tmp 2]
theorem fn245 : FnX Tryz.prog 245 EFF 10 x245 r245 := ⟨_, Tryz.func245, by kernel_rfl, by kernel_rfl, by kernel_rfl, by kernel_rfl⟩
-- slices.Clip[[]byte,byte] (1 parameters)
def x247 : XC := (.seq (.tree (.seq ⟨some 2, none, (.ofA (.mv (.cst (.v (.slice none 0 0)))))⟩
  .done))
 (.seq (.tree (.seq ⟨some 3, none, (.ofA (.mv (.tmp 0)))⟩
  (.seq ⟨some 4, none, (.ofA (.mv (.tmp 0)))⟩
  (.seq ⟨some 5, none, (.ofA (.len (.tmp 4)))⟩
  (.seq ⟨some 6, none, (.ofA (.mv (.tmp 0)))⟩
  (.seq ⟨some 7, none, (.ofA (.len (.tmp 6)))⟩
  (.seq ⟨some 8, none, (.ofA (.slc3 1 (.tmp 3) none (.tmp 5) (.tmp 7)))⟩
  (.seq ⟨some 2, none, (.ofA (.mv (.tmp 8)))⟩
  .done))))))))
 .ret))
def r247 : List XR := [.tmp 2]
theorem fn247 : FnX Tryz.prog 247 EFF 9 x247 r247 := ⟨_, Tryz.func247, by kernel_rfl, by kernel_rfl, by kernel_rfl, by kernel_rfl⟩
-- almshouse/word.Fits (2 parameters)
def x248 : XC := (.seq (.tree (.seq ⟨some 4, none, (.ofA (.mv (.cst (.v (.bool false)))))⟩
  .done))
 (.seq (.tree (.seq ⟨some 5, none, (.ofA (.mv (.tmp 1)))⟩
  (.seq ⟨some 6, none, (.call (.cst (.fn 209 [])) [(.tmp 5)])⟩
  (.seq ⟨some 7, none, (.ofA (.mv (.tmp 6)))⟩
  (.seq ⟨some 8, some (7, true), (.ofA (.mv (.tmp 0)))⟩
  (.seq ⟨some 9, some (7, true), (.ofA (.mv (.tmp 1)))⟩
  (.seq ⟨some 10, some (7, true), (.ofA (.bin .mul (.cst (.v (.int .i64 8))) (.tmp 9)))⟩
  (.seq ⟨some 11, some (7, true), (.ofA (.conv .u64 (.tmp 10)))⟩
  (.seq ⟨some 12, some (7, true), (.ofA (.bin .shr (.tmp 8) (.tmp 11)))⟩
  (.seq ⟨some 13, some (7, true), (.ofA (.bin .eql (.tmp 12) (.cst (.v (.int .i64 0)))))⟩
  (.seq ⟨some 14, none, (.ofA (.pick (.tmp 7) (.tmp 13) (.cst (.v (.bool false)))))⟩
  (.seq ⟨some 4, none, (.ofA (.mv (.tmp 14)))⟩
  .done))))))))))))
 .ret))
def r248 : List XR := [.tmp 4]
theorem fn248 : FnX Tryz.prog 248 EFF 15 x248 r248 := ⟨_, Tryz.func248, by kernel_rfl, by kernel_rfl, by kernel_rfl, by kernel_rfl⟩
-- slices.siftDownOrdered[int] (4 parameters)
def x249 : XC := (.seq (.tree (.seq ⟨some 10, none, (.ofA (.mv (.tmp 1)))⟩
  (.seq ⟨some 8, none, (.ofA (.mv (.tmp 10)))⟩
  .done)))
 (.block 0 (.loop (.block 1 (.seq (.tree (.seq ⟨some 11, none, (.ofA (.mv (.tmp 8)))⟩
  (.seq ⟨some 12, none, (.ofA (.bin .mul (.cst (.v (.int .i64 2))) (.tmp 11)))⟩
  (.seq ⟨some 13, none, (.ofA (.bin .add (.tmp 12) (.cst (.v (.int .i64 1)))))⟩
  (.seq ⟨some 9, none, (.ofA (.mv (.tmp 13)))⟩
  .done)))))
 (.seq (.seq (.tree (.seq ⟨some 14, none, (.ofA (.mv (.tmp 9)))⟩
  (.seq ⟨some 15, none, (.ofA (.mv (.tmp 2)))⟩
  (.seq ⟨some 16, none, (.ofA (.bin .geq (.tmp 14) (.tmp 15)))⟩
  .done))))
 (.cond (.tmp 16)
 (.exit 0)
 .skip))
 (.seq (.seq (.tree (.take ⟨some 17, none, (.ofA (.mv (.tmp 9)))⟩
  (.take ⟨some 18, none, (.ofA (.bin .add (.tmp 17) (.cst (.v (.int .i64 1)))))⟩
  (.take ⟨some 19, none, (.ofA (.mv (.tmp 2)))⟩
  (.take ⟨some 20, none, (.ofA (.bin .lss (.tmp 18) (.tmp 19)))⟩
  (.take ⟨some 21, none, (.ofA (.mv (.tmp 20)))⟩
  (.take ⟨some 22, some (21, true), (.ofA (.mv (.tmp 0)))⟩
  (.take ⟨some 23, some (21, true), (.ofA (.mv (.tmp 3)))⟩
  (.take ⟨some 24, some (21, true), (.ofA (.mv (.tmp 9)))⟩
  (.take ⟨some 25, some (21, true), (.ofA (.bin .add (.tmp 23) (.tmp 24)))⟩
  (.take ⟨some 26, some (21, true), (.ofA (.isl 1 (.tmp 22) (.tmp 25)))⟩
  (.take ⟨some 27, some (21, true), (.ofA (.load none (.tmp 26)))⟩
  (.take ⟨some 28, some (21, true), (.ofA (.mv (.tmp 0)))⟩
  (.take ⟨some 29, some (21, true), (.ofA (.mv (.tmp 3)))⟩
  (.take ⟨some 30, some (21, true), (.ofA (.mv (.tmp 9)))⟩
  (.take ⟨some 31, some (21, true), (.ofA (.bin .add (.tmp 29) (.tmp 30)))⟩
  (.take ⟨some 32, some (21, true), (.ofA (.bin .add (.tmp 31) (.cst (.v (.int .i64 1)))))⟩
  (.take ⟨some 33, some (21, true), (.ofA (.isl 1 (.tmp 28) (.tmp 32)))⟩
  (.take ⟨some 34, some (21, true), (.ofA (.load none (.tmp 33)))⟩
  (.act true [(⟨some 35, some (21, true), (.call (.cst (.fn 223 [])) [(.tmp 27), (.tmp 34)])⟩,
 (.take ⟨some 36, none, (.ofA (.pick (.tmp 21) (.tmp 35) (.cst (.v (.bool false)))))⟩
  .done))]))))))))))))))))))))
 (.cond (.tmp 36)
 (.tree (.seq ⟨some 37, none, (.ofA (.mv (.tmp 9)))⟩
  (.seq ⟨some 38, none, (.ofA (.bin .add (.tmp 37) (.cst (.v (.int .i64 1)))))⟩
  (.seq ⟨some 9, none, (.ofA (.mv (.tmp 38)))⟩
  .done))))
 .skip))
 (.seq (.seq (.tree (.take ⟨some 39, none, (.ofA (.mv (.tmp 0)))⟩
  (.take ⟨some 40, none, (.ofA (.mv (.tmp 3)))⟩
  (.take ⟨some 41, none, (.ofA (.mv (.tmp 8)))⟩
  (.take ⟨some 42, none, (.ofA (.bin .add (.tmp 40) (.tmp 41)))⟩
  (.take ⟨some 43, none, (.ofA (.isl 1 (.tmp 39) (.tmp 42)))⟩
  (.take ⟨some 44, none, (.ofA (.load none (.tmp 43)))⟩
  (.take ⟨some 45, none, (.ofA (.mv (.tmp 0)))⟩
  (.take ⟨some 46, none, (.ofA (.mv (.tmp 3)))⟩
  (.take ⟨some 47, none, (.ofA (.mv (.tmp 9)))⟩
  (.take ⟨some 48, none, (.ofA (.bin .add (.tmp 46) (.tmp 47)))⟩
  (.take ⟨some 49, none, (.ofA (.isl 1 (.tmp 45) (.tmp 48)))⟩
  (.take ⟨some 50, none, (.ofA (.load none (.tmp 49)))⟩
  (.act true [(⟨some 51, none, (.call (.cst (.fn 223 [])) [(.tmp 44), (.tmp 50)])⟩,
 (.take ⟨some 52, none, (.ofA (.un .not (.tmp 51)))⟩
  .done))]))))))))))))))
 (.cond (.tmp 52)
 .ret
 .skip))
 (.seq (.tree (.take ⟨some 53, none, (.ofA (.mv (.tmp 0)))⟩
  (.take ⟨some 54, none, (.ofA (.mv (.tmp 3)))⟩
  (.take ⟨some 55, none, (.ofA (.mv (.tmp 8)))⟩
  (.take ⟨some 56, none, (.ofA (.bin .add (.tmp 54) (.tmp 55)))⟩
  (.take ⟨some 57, none, (.ofA (.mv (.tmp 0)))⟩
  (.take ⟨some 58, none, (.ofA (.mv (.tmp 3)))⟩
  (.take ⟨some 59, none, (.ofA (.mv (.tmp 9)))⟩
  (.take ⟨some 60, none, (.ofA (.bin .add (.tmp 58) (.tmp 59)))⟩
  (.take ⟨some 61, none, (.ofA (.mv (.tmp 0)))⟩
  (.take ⟨some 62, none, (.ofA (.mv (.tmp 3)))⟩
  (.take ⟨some 63, none, (.ofA (.mv (.tmp 9)))⟩
  (.take ⟨some 64, none, (.ofA (.bin .add (.tmp 62) (.tmp 63)))⟩
  (.take ⟨some 65, none, (.ofA (.isl 1 (.tmp 61) (.tmp 64)))⟩
  (.take ⟨some 66, none, (.ofA (.load none (.tmp 65)))⟩
  (.take ⟨some 67, none, (.ofA (.mv (.tmp 0)))⟩
  (.take ⟨some 68, none, (.ofA (.mv (.tmp 3)))⟩
  (.take ⟨some 69, none, (.ofA (.mv (.tmp 8)))⟩
  (.take ⟨some 70, none, (.ofA (.bin .add (.tmp 68) (.tmp 69)))⟩
  (.take ⟨some 71, none, (.ofA (.isl 1 (.tmp 67) (.tmp 70)))⟩
  (.take ⟨some 72, none, (.ofA (.load none (.tmp 71)))⟩
  (.take ⟨some 73, none, (.ofA (.isl 1 (.tmp 53) (.tmp 56)))⟩
  (.alt [false] [(⟨none, none, (.store 1 (.tmp 73) (.tmp 66))⟩,
 (.take ⟨some 74, none, (.ofA (.isl 1 (.tmp 57) (.tmp 60)))⟩
  (.alt [false] [(⟨none, none, (.store 1 (.tmp 74) (.tmp 72))⟩,
 .done)])))])))))))))))))))))))))))
 (.tree (.seq ⟨some 75, none, (.ofA (.mv (.tmp 9)))⟩
  (.seq ⟨some 8, none, (.ofA (.mv (.tmp 75)))⟩
  .done))))))))))))
def r249 : List XR := []
theorem fn249 : FnX Tryz.prog 249 EFF 76 x249 r249 := ⟨_, Tryz.func249, by kernel_rfl, by kernel_rfl, by kernel_rfl, by kernel_rfl⟩
-- slices.nextPowerOfTwo (1 parameters)
def x250 : XC := (.seq (.tree (.seq ⟨some 2, none, (.ofA (.mv (.cst (.v (.int .u64 0)))))⟩
  .done))
 (.seq (.tree (.seq ⟨some 3, none, (.ofA (.mv (.tmp 0)))⟩
  (.seq ⟨some 4, none, (.ofA (.conv .u64 (.tmp 3)))⟩
  (.seq ⟨some 5, none, (.call (.cst (.fn 186 [])) [(.tmp 4)])⟩
  (.seq ⟨some 6, none, (.ofA (.bin .shl (.cst (.v (.int .u64 1))) (.tmp 5)))⟩
  (.seq ⟨some 2, none, (.ofA (.mv (.tmp 6)))⟩
  .done))))))
 .ret))
def r250 : List XR := [.tmp 2]
theorem fn250 : FnX Tryz.prog 250 EFF 7 x250 r250 := ⟨_, Tryz.func250, by kernel_rfl, by kernel_rfl, by kernel_rfl, by kernel_rfl⟩
-- (*slices.xorshift).Next (1 parameters)
def x251 : XC := (.seq (.tree (.seq ⟨some 2, none, (.ofA (.mv (.cst (.v (.int .u64 0)))))⟩
  .done))
 (.seq (.tree (.take ⟨some 3, none, (.ofA (.mv (.tmp 0)))⟩
  (.take ⟨some 4, none, (.ofA (.nilc (.tmp 3)))⟩
  (.take ⟨some 5, none, (.ofA (.load none (.tmp 4)))⟩
  (.take ⟨some 6, none, (.ofA (.mv (.tmp 0)))⟩
  (.take ⟨some 7, none, (.ofA (.nilc (.tmp 6)))⟩
  (.take ⟨some 8, none, (.ofA (.load none (.tmp 7)))⟩
  (.take ⟨some 9, none, (.ofA (.bin .shl (.tmp 8) (.cst (.v (.int .u64 13)))))⟩
  (.take ⟨some 10, none, (.ofA (.bin .xor (.tmp 5) (.tmp 9)))⟩
  (.take ⟨some 11, none, (.ofA (.nilc (.tmp 3)))⟩
  (.alt [false] [(⟨none, none, (.store 1 (.tmp 11) (.tmp 10))⟩,
 .done)])))))))))))
 (.seq (.tree (.take ⟨some 12, none, (.ofA (.mv (.tmp 0)))⟩
  (.take ⟨some 13, none, (.ofA (.nilc (.tmp 12)))⟩
  (.take ⟨some 14, none, (.ofA (.load none (.tmp 13)))⟩
  (.take ⟨some 15, none, (.ofA (.mv (.tmp 0)))⟩
  (.take ⟨some 16, none, (.ofA (.nilc (.tmp 15)))⟩
  (.take ⟨some 17, none, (.ofA (.load none (.tmp 16)))⟩
  (.take ⟨some 18, none, (.ofA (.bin .shr (.tmp 17) (.cst (.v (.int .u64 7)))))⟩
  (.take ⟨some 19, none, (.ofA (.bin .xor (.tmp 14) (.tmp 18)))⟩
  (.take ⟨some 20, none, (.ofA (.nilc (.tmp 12)))⟩
  (.alt [false] [(⟨none, none, (.store 1 (.tmp 20) (.tmp 19))⟩,
 .done)])))))))))))
 (.seq (.tree (.take ⟨some 21, none, (.ofA (.mv (.tmp 0)))⟩
  (.take ⟨some 22, none, (.ofA (.nilc (.tmp 21)))⟩
  (.take ⟨some 23, none, (.ofA (.load none (.tmp 22)))⟩
  (.take ⟨some 24, none, (.ofA (.mv (.tmp 0)))⟩
  (.take ⟨some 25, none, (.ofA (.nilc (.tmp 24)))⟩
  (.take ⟨some 26, none, (.ofA (.load none (.tmp 25)))⟩
  (.take ⟨some 27, none, (.ofA (.bin .shl (.tmp 26) (.cst (.v (.int .u64 17)))))⟩
  (.take ⟨some 28, none, (.ofA (.bin .xor (.tmp 23) (.tmp 27)))⟩
  (.take ⟨some 29, none, (.ofA (.nilc (.tmp 21)))⟩
  (.alt [false] [(⟨none, none, (.store 1 (.tmp 29) (.tmp 28))⟩,
 .done)])))))))))))
 (.seq (.tree (.seq ⟨some 30, none, (.ofA (.mv (.tmp 0)))⟩
  (.seq ⟨some 31, none, (.ofA (.nilc (.tmp 30)))⟩
  (.seq ⟨some 32, none, (.ofA (.load none (.tmp 31)))⟩
  (.seq ⟨some 2, none, (.ofA (.mv (.tmp 32)))⟩
  .done)))))
 .ret)))))
def r251 : List XR := [.tmp 2]
theorem fn251 : FnX Tryz.prog 251 EFF 33 x251 r251 := ⟨_, Tryz.func251, by kernel_rfl, by kernel_rfl, by kernel_rfl, by kernel_rfl⟩
-- slices.medianAdjacentOrdered[int] (3 parameters)
def x252 : XC := (.seq (.tree (.seq ⟨some 6, none, (.ofA (.mv (.cst (.v (.int .i64 0)))))⟩
  .done))
 (.seq (.tree (.seq ⟨some 7, none, (.ofA (.mv (.tmp 0)))⟩
  (.seq ⟨some 8, none, (.ofA (.mv (.tmp 1)))⟩
  (.seq ⟨some 9, none, (.ofA (.bin .sub (.tmp 8) (.cst (.v (.int .i64 1)))))⟩
  (.seq ⟨some 10, none, (.ofA (.mv (.tmp 1)))⟩
  (.seq ⟨some 11, none, (.ofA (.mv (.tmp 1)))⟩
  (.seq ⟨some 12, none, (.ofA (.bin .add (.tmp 11) (.cst (.v (.int .i64 1)))))⟩
  (.seq ⟨some 13, none, (.ofA (.mv (.tmp 2)))⟩
  (.seq ⟨some 14, none, (.call (.cst (.fn 253 [])) [(.tmp 7), (.tmp 9), (.tmp 10), (.tmp 12), (.tmp 13)])⟩
  (.seq ⟨some 6, none, (.ofA (.mv (.tmp 14)))⟩
  .done))))))))))
 .ret))
def r252 : List XR := [.tmp 6]
theorem fn252 : FnX Tryz.prog 252 EFF 15 x252 r252 := ⟨_, Tryz.func252, by kernel_rfl, by kernel_rfl, by kernel_rfl, by kernel_rfl⟩
-- slices.medianOrdered[int] (5 parameters)
def x253 : XC := (.seq (.tree (.seq ⟨some 10, none, (.ofA (.mv (.cst (.v (.int .i64 0)))))⟩
  .done))
 (.seq (.tree (.seq ⟨some 12, none, (.ofA (.mv (.tmp 0)))⟩
  (.seq ⟨some 13, none, (.ofA (.mv (.tmp 1)))⟩
  (.seq ⟨some 14, none, (.ofA (.mv (.tmp 2)))⟩
  (.seq ⟨some 15, none, (.ofA (.mv (.tmp 4)))⟩
  (.seq ⟨some 16, none, (.call (.cst (.fn 267 [])) [(.tmp 12), (.tmp 13), (.tmp 14), (.tmp 15)])⟩
  (.seq ⟨some 11, none, (.ofA (.mv (.tmp 16)))⟩
  (.seq ⟨some 17, none, (.ofA (.extract 0 (.tmp 11)))⟩
  (.seq ⟨some 18, none, (.ofA (.extract 1 (.tmp 11)))⟩
  (.seq ⟨some 1, none, (.ofA (.mv (.tmp 17)))⟩
  (.seq ⟨some 2, none, (.ofA (.mv (.tmp 18)))⟩
  .done)))))))))))
 (.seq (.tree (.seq ⟨some 20, none, (.ofA (.mv (.tmp 0)))⟩
  (.seq ⟨some 21, none, (.ofA (.mv (.tmp 2)))⟩
  (.seq ⟨some 22, none, (.ofA (.mv (.tmp 3)))⟩
  (.seq ⟨some 23, none, (.ofA (.mv (.tmp 4)))⟩
  (.seq ⟨some 24, none, (.call (.cst (.fn 267 [])) [(.tmp 20), (.tmp 21), (.tmp 22), (.tmp 23)])⟩
  (.seq ⟨some 19, none, (.ofA (.mv (.tmp 24)))⟩
  (.seq ⟨some 25, none, (.ofA (.extract 0 (.tmp 19)))⟩
  (.seq ⟨some 26, none, (.ofA (.extract 1 (.tmp 19)))⟩
  (.seq ⟨some 2, none, (.ofA (.mv (.tmp 25)))⟩
  (.seq ⟨some 3, none, (.ofA (.mv (.tmp 26)))⟩
  .done)))))))))))
 (.seq (.tree (.seq ⟨some 28, none, (.ofA (.mv (.tmp 0)))⟩
  (.seq ⟨some 29, none, (.ofA (.mv (.tmp 1)))⟩
  (.seq ⟨some 30, none, (.ofA (.mv (.tmp 2)))⟩
  (.seq ⟨some 31, none, (.ofA (.mv (.tmp 4)))⟩
  (.seq ⟨some 32, none, (.call (.cst (.fn 267 [])) [(.tmp 28), (.tmp 29), (.tmp 30), (.tmp 31)])⟩
  (.seq ⟨some 27, none, (.ofA (.mv (.tmp 32)))⟩
  (.seq ⟨some 33, none, (.ofA (.extract 0 (.tmp 27)))⟩
  (.seq ⟨some 34, none, (.ofA (.extract 1 (.tmp 27)))⟩
  (.seq ⟨some 1, none, (.ofA (.mv (.tmp 33)))⟩
  (.seq ⟨some 2, none, (.ofA (.mv (.tmp 34)))⟩
  .done)))))))))))
 (.seq (.tree (.seq ⟨some 35, none, (.ofA (.mv (.tmp 2)))⟩
  (.seq ⟨some 10, none, (.ofA (.mv (.tmp 35)))⟩
  .done)))
 .ret)))))
def r253 : List XR := [.tmp 10]
theorem fn253 : FnX Tryz.prog 253 EFF 36 x253 r253 := ⟨_, Tryz.func253, by kernel_rfl, by kernel_rfl, by kernel_rfl, by kernel_rfl⟩
-- (*sync/atomic.Int64).Add (2 parameters)
def x254 : XC := (.seq (.tree (.seq ⟨some 4, none, (.ofA (.mv (.cst (.v (.int .i64 0)))))⟩
  .done))
 (.seq (.tree (.seq ⟨some 5, none, (.ofA (.mv (.tmp 0)))⟩
  (.seq ⟨some 6, none, (.ofA (.nilc (.tmp 5)))⟩
  (.seq ⟨some 7, none, (.ofA (.faddr 0 (.tmp 6)))⟩
  (.seq ⟨some 8, none, (.ofA (.mv (.tmp 1)))⟩
  (.seq ⟨some 9, none, (.call (.cst (.fn 268 [])) [(.tmp 7), (.tmp 8)])⟩
  (.seq ⟨some 4, none, (.ofA (.mv (.tmp 9)))⟩
  .done)))))))
 .ret))
def r254 : List XR := [.tmp 4]
theorem fn254 : FnX Tryz.prog 254 EFF 10 x254 r254 := ⟨_, Tryz.func254, by kernel_rfl, by kernel_rfl, by kernel_rfl, by kernel_rfl⟩
-- almshouse/ledger.none (1 parameters)
def x255 : XC := (.seq (.tree (.seq ⟨some 1, none, (.box (.tmp 0))⟩
  (.seq ⟨some 2, none, (.ofA (.mv (.cst (.v (.bool false)))))⟩
  .done)))
 (.seq (.tree (.seq ⟨some 3, none, (.ofA (.faddr 1 (.tmp 1)))⟩
  (.seq ⟨some 4, none, (.ofA (.load none (.tmp 3)))⟩
  (.seq ⟨some 5, none, (.ofA (.bin .eql (.tmp 4) (.cst (.v (.int .i64 0)))))⟩
  (.seq ⟨some 6, none, (.ofA (.mv (.tmp 5)))⟩
  (.seq ⟨some 7, some (6, true), (.ofA (.faddr 2 (.tmp 1)))⟩
  (.seq ⟨some 8, some (6, true), (.ofA (.load none (.tmp 7)))⟩
  (.seq ⟨some 9, some (6, true), (.ofA (.bin .eql (.tmp 8) (.cst (.v (.int .i64 0)))))⟩
  (.seq ⟨some 10, none, (.ofA (.pick (.tmp 6) (.tmp 9) (.cst (.v (.bool false)))))⟩
  (.seq ⟨some 11, none, (.ofA (.mv (.tmp 10)))⟩
  (.seq ⟨some 12, some (11, true), (.ofA (.faddr 3 (.tmp 1)))⟩
  (.seq ⟨some 13, some (11, true), (.ofA (.load none (.tmp 12)))⟩
  (.seq ⟨some 14, some (11, true), (.ofA (.bin .eql (.tmp 13) (.cst (.v (.int .i64 0)))))⟩
  (.seq ⟨some 15, none, (.ofA (.pick (.tmp 11) (.tmp 14) (.cst (.v (.bool false)))))⟩
  (.seq ⟨some 16, none, (.ofA (.mv (.tmp 15)))⟩
  (.seq ⟨some 17, some (16, true), (.ofA (.faddr 4 (.tmp 1)))⟩
  (.seq ⟨some 18, some (16, true), (.ofA (.load none (.tmp 17)))⟩
  (.seq ⟨some 19, some (16, true), (.ofA (.len (.tmp 18)))⟩
  (.seq ⟨some 20, some (16, true), (.ofA (.bin .eql (.tmp 19) (.cst (.v (.int .i64 0)))))⟩
  (.seq ⟨some 21, none, (.ofA (.pick (.tmp 16) (.tmp 20) (.cst (.v (.bool false)))))⟩
  (.seq ⟨some 2, none, (.ofA (.mv (.tmp 21)))⟩
  .done)))))))))))))))))))))
 .ret))
def r255 : List XR := [.tmp 2]
theorem fn255 : FnX Tryz.prog 255 EFF 22 x255 r255 := ⟨_, Tryz.func255, by kernel_rfl, by kernel_rfl, by kernel_rfl, by kernel_rfl⟩
-- slices.IndexFunc[[]almshouse/api.Found,almshouse/api.Found] (2 parameters)
def x257 : XC := (.seq (.tree (.seq ⟨some 4, none, (.ofA (.mv (.cst (.v (.int .i64 0)))))⟩
  .done))
 (.seq (.seq (.tree (.seq ⟨some 6, none, (.ofA (.mv (.tmp 0)))⟩
  (.seq ⟨some 7, none, (.ofA (.len (.tmp 6)))⟩
  (.seq ⟨some 8, none, (.ofA (.mv (.cst (.v (.int .i64 0)))))⟩
  .done))))
 (.block 0 (.loop (.seq (.tree (.seq ⟨some 9, none, (.ofA (.bin .lss (.tmp 8) (.tmp 7)))⟩
  .done))
 (.seq (.cond (.tmp 9)
 .skip
 (.exit 0))
 (.seq (.block 1 (.seq (.tree (.seq ⟨some 10, none, (.ofA (.mv (.tmp 8)))⟩
  (.seq ⟨some 5, none, (.ofA (.mv (.tmp 10)))⟩
  .done)))
 (.seq (.tree (.seq ⟨some 11, none, (.ofA (.mv (.tmp 1)))⟩
  (.seq ⟨some 12, none, (.ofA (.mv (.tmp 0)))⟩
  (.seq ⟨some 13, none, (.ofA (.mv (.tmp 5)))⟩
  (.seq ⟨some 14, none, (.ofA (.isl 10 (.tmp 12) (.tmp 13)))⟩
  (.seq ⟨some 15, none, (.ofA (.load (some 10) (.tmp 14)))⟩
  (.seq ⟨some 16, none, (.call (.tmp 11) [(.tmp 15)])⟩
  .done)))))))
 (.cond (.tmp 16)
 (.seq (.tree (.seq ⟨some 17, none, (.ofA (.mv (.tmp 5)))⟩
  (.seq ⟨some 4, none, (.ofA (.mv (.tmp 17)))⟩
  .done)))
 .ret)
 .skip))))
 (.tree (.seq ⟨some 18, none, (.ofA (.bin .add (.tmp 8) (.cst (.v (.int .i64 1)))))⟩
  (.seq ⟨some 8, none, (.ofA (.mv (.tmp 18)))⟩
  .done)))))))))
 (.seq (.tree (.seq ⟨some 4, none, (.ofA (.mv (.cst (.v (.int .i64 (-1))))))⟩
  .done))
 .ret)))
def r257 : List XR := [.tmp 4]
theorem fn257 : FnX Tryz.prog 257 EFF 19 x257 r257 := ⟨_, Tryz.func257, by kernel_rfl, by kernel_rfl, by kernel_rfl, by kernel_rfl⟩
-- slices.insertionSortCmpFunc[almshouse/heal.Spot] (4 parameters)
def x258 : XC := (.seq (.tree (.seq ⟨some 10, none, (.ofA (.mv (.tmp 1)))⟩
  (.seq ⟨some 11, none, (.ofA (.bin .add (.tmp 10) (.cst (.v (.int .i64 1)))))⟩
  (.seq ⟨some 8, none, (.ofA (.mv (.tmp 11)))⟩
  .done))))
 (.block 0 (.loop (.seq (.seq (.tree (.seq ⟨some 12, none, (.ofA (.mv (.tmp 8)))⟩
  (.seq ⟨some 13, none, (.ofA (.mv (.tmp 2)))⟩
  (.seq ⟨some 14, none, (.ofA (.bin .lss (.tmp 12) (.tmp 13)))⟩
  .done))))
 (.cond (.tmp 14)
 .skip
 (.exit 0)))
 (.seq (.block 1 (.seq (.tree (.seq ⟨some 17, none, (.ofA (.mv (.tmp 8)))⟩
  (.seq ⟨some 9, none, (.ofA (.mv (.tmp 17)))⟩
  .done)))
 (.block 2 (.loop (.seq (.seq (.tree (.take ⟨some 18, none, (.ofA (.mv (.tmp 9)))⟩
  (.take ⟨some 19, none, (.ofA (.mv (.tmp 1)))⟩
  (.take ⟨some 20, none, (.ofA (.bin .gtr (.tmp 18) (.tmp 19)))⟩
  (.take ⟨some 21, none, (.ofA (.mv (.tmp 20)))⟩
  (.take ⟨some 22, some (21, true), (.ofA (.mv (.tmp 3)))⟩
  (.take ⟨some 23, some (21, true), (.ofA (.mv (.tmp 0)))⟩
  (.take ⟨some 24, some (21, true), (.ofA (.mv (.tmp 9)))⟩
  (.take ⟨some 25, some (21, true), (.ofA (.isl 3 (.tmp 23) (.tmp 24)))⟩
  (.take ⟨some 26, some (21, true), (.ofA (.load (some 3) (.tmp 25)))⟩
  (.take ⟨some 27, some (21, true), (.ofA (.mv (.tmp 0)))⟩
  (.take ⟨some 28, some (21, true), (.ofA (.mv (.tmp 9)))⟩
  (.take ⟨some 29, some (21, true), (.ofA (.bin .sub (.tmp 28) (.cst (.v (.int .i64 1)))))⟩
  (.take ⟨some 30, some (21, true), (.ofA (.isl 3 (.tmp 27) (.tmp 29)))⟩
  (.take ⟨some 31, some (21, true), (.ofA (.load (some 3) (.tmp 30)))⟩
  (.alt [false] [(⟨some 32, some (21, true), (.call (.tmp 22) [(.tmp 26), (.tmp 31)])⟩,
 (.take ⟨some 33, some (21, true), (.ofA (.bin .lss (.tmp 32) (.cst (.v (.int .i64 0)))))⟩
  (.take ⟨some 34, none, (.ofA (.pick (.tmp 21) (.tmp 33) (.cst (.v (.bool false)))))⟩
  .done)))]))))))))))))))))
 (.cond (.tmp 34)
 .skip
 (.exit 2)))
 (.seq (.block 3 (.tree (.take ⟨some 37, none, (.ofA (.mv (.tmp 0)))⟩
  (.take ⟨some 38, none, (.ofA (.mv (.tmp 9)))⟩
  (.take ⟨some 39, none, (.ofA (.mv (.tmp 0)))⟩
  (.take ⟨some 40, none, (.ofA (.mv (.tmp 9)))⟩
  (.take ⟨some 41, none, (.ofA (.bin .sub (.tmp 40) (.cst (.v (.int .i64 1)))))⟩
  (.take ⟨some 42, none, (.ofA (.mv (.tmp 0)))⟩
  (.take ⟨some 43, none, (.ofA (.mv (.tmp 9)))⟩
  (.take ⟨some 44, none, (.ofA (.bin .sub (.tmp 43) (.cst (.v (.int .i64 1)))))⟩
  (.take ⟨some 45, none, (.ofA (.isl 3 (.tmp 42) (.tmp 44)))⟩
  (.take ⟨some 46, none, (.ofA (.load (some 3) (.tmp 45)))⟩
  (.take ⟨some 47, none, (.ofA (.mv (.tmp 0)))⟩
  (.take ⟨some 48, none, (.ofA (.mv (.tmp 9)))⟩
  (.take ⟨some 49, none, (.ofA (.isl 3 (.tmp 47) (.tmp 48)))⟩
  (.take ⟨some 50, none, (.ofA (.load (some 3) (.tmp 49)))⟩
  (.take ⟨some 51, none, (.ofA (.isl 3 (.tmp 37) (.tmp 38)))⟩
  (.alt [false] [(⟨none, none, (.store 3 (.tmp 51) (.tmp 46))⟩,
 (.take ⟨some 52, none, (.ofA (.isl 3 (.tmp 39) (.tmp 41)))⟩
  (.alt [false] [(⟨none, none, (.store 3 (.tmp 52) (.tmp 50))⟩,
 .done)])))]))))))))))))))))))
 (.tree (.seq ⟨some 35, none, (.ofA (.mv (.tmp 9)))⟩
  (.seq ⟨some 36, none, (.ofA (.bin .sub (.tmp 35) (.cst (.v (.int .i64 1)))))⟩
  (.seq ⟨some 9, none, (.ofA (.mv (.tmp 36)))⟩
  .done))))))))))
 (.tree (.seq ⟨some 15, none, (.ofA (.mv (.tmp 8)))⟩
  (.seq ⟨some 16, none, (.ofA (.bin .add (.tmp 15) (.cst (.v (.int .i64 1)))))⟩
  (.seq ⟨some 8, none, (.ofA (.mv (.tmp 16)))⟩
  .done)))))))))
def r258 : List XR := []
theorem fn258 : FnX Tryz.prog 258 EFF 53 x258 r258 := ⟨_, Tryz.func258, by kernel_rfl, by kernel_rfl, by kernel_rfl, by kernel_rfl⟩
-- slices.heapSortCmpFunc[almshouse/heal.Spot] (4 parameters)
def x259 : XC := (.seq (.tree (.seq ⟨some 13, none, (.ofA (.mv (.tmp 1)))⟩
  (.seq ⟨some 8, none, (.ofA (.mv (.tmp 13)))⟩
  .done)))
 (.seq (.tree (.seq ⟨some 9, none, (.ofA (.mv (.cst (.v (.int .i64 0)))))⟩
  .done))
 (.seq (.tree (.seq ⟨some 14, none, (.ofA (.mv (.tmp 2)))⟩
  (.seq ⟨some 15, none, (.ofA (.mv (.tmp 1)))⟩
  (.seq ⟨some 16, none, (.ofA (.bin .sub (.tmp 14) (.tmp 15)))⟩
  (.seq ⟨some 10, none, (.ofA (.mv (.tmp 16)))⟩
  .done)))))
 (.seq (.seq (.tree (.seq ⟨some 17, none, (.ofA (.mv (.tmp 10)))⟩
  (.seq ⟨some 18, none, (.ofA (.bin .sub (.tmp 17) (.cst (.v (.int .i64 1)))))⟩
  (.seq ⟨some 19, none, (.ofA (.bin .quo (.tmp 18) (.cst (.v (.int .i64 2)))))⟩
  (.seq ⟨some 11, none, (.ofA (.mv (.tmp 19)))⟩
  .done)))))
 (.block 0 (.loop (.seq (.seq (.tree (.seq ⟨some 20, none, (.ofA (.mv (.tmp 11)))⟩
  (.seq ⟨some 21, none, (.ofA (.bin .geq (.tmp 20) (.cst (.v (.int .i64 0)))))⟩
  .done)))
 (.cond (.tmp 21)
 .skip
 (.exit 0)))
 (.seq (.block 1 (.tree (.seq ⟨some 24, none, (.ofA (.mv (.tmp 0)))⟩
  (.seq ⟨some 25, none, (.ofA (.mv (.tmp 11)))⟩
  (.seq ⟨some 26, none, (.ofA (.mv (.tmp 10)))⟩
  (.seq ⟨some 27, none, (.ofA (.mv (.tmp 8)))⟩
  (.seq ⟨some 28, none, (.ofA (.mv (.tmp 3)))⟩
  (.seq ⟨some 29, none, (.call (.cst (.fn 269 [])) [(.tmp 24), (.tmp 25), (.tmp 26), (.tmp 27), (.tmp 28)])⟩
  .done))))))))
 (.tree (.seq ⟨some 22, none, (.ofA (.mv (.tmp 11)))⟩
  (.seq ⟨some 23, none, (.ofA (.bin .sub (.tmp 22) (.cst (.v (.int .i64 1)))))⟩
  (.seq ⟨some 11, none, (.ofA (.mv (.tmp 23)))⟩
  .done)))))))))
 (.seq (.tree (.seq ⟨some 30, none, (.ofA (.mv (.tmp 10)))⟩
  (.seq ⟨some 31, none, (.ofA (.bin .sub (.tmp 30) (.cst (.v (.int .i64 1)))))⟩
  (.seq ⟨some 12, none, (.ofA (.mv (.tmp 31)))⟩
  .done))))
 (.block 2 (.loop (.seq (.seq (.tree (.seq ⟨some 32, none, (.ofA (.mv (.tmp 12)))⟩
  (.seq ⟨some 33, none, (.ofA (.bin .geq (.tmp 32) (.cst (.v (.int .i64 0)))))⟩
  .done)))
 (.cond (.tmp 33)
 .skip
 (.exit 2)))
 (.seq (.block 3 (.seq (.tree (.take ⟨some 36, none, (.ofA (.mv (.tmp 0)))⟩
  (.take ⟨some 37, none, (.ofA (.mv (.tmp 8)))⟩
  (.take ⟨some 38, none, (.ofA (.mv (.tmp 0)))⟩
  (.take ⟨some 39, none, (.ofA (.mv (.tmp 8)))⟩
  (.take ⟨some 40, none, (.ofA (.mv (.tmp 12)))⟩
  (.take ⟨some 41, none, (.ofA (.bin .add (.tmp 39) (.tmp 40)))⟩
  (.take ⟨some 42, none, (.ofA (.mv (.tmp 0)))⟩
  (.take ⟨some 43, none, (.ofA (.mv (.tmp 8)))⟩
  (.take ⟨some 44, none, (.ofA (.mv (.tmp 12)))⟩
  (.take ⟨some 45, none, (.ofA (.bin .add (.tmp 43) (.tmp 44)))⟩
  (.take ⟨some 46, none, (.ofA (.isl 3 (.tmp 42) (.tmp 45)))⟩
  (.take ⟨some 47, none, (.ofA (.load (some 3) (.tmp 46)))⟩
  (.take ⟨some 48, none, (.ofA (.mv (.tmp 0)))⟩
  (.take ⟨some 49, none, (.ofA (.mv (.tmp 8)))⟩
  (.take ⟨some 50, none, (.ofA (.isl 3 (.tmp 48) (.tmp 49)))⟩
  (.take ⟨some 51, none, (.ofA (.load (some 3) (.tmp 50)))⟩
  (.take ⟨some 52, none, (.ofA (.isl 3 (.tmp 36) (.tmp 37)))⟩
  (.alt [false] [(⟨none, none, (.store 3 (.tmp 52) (.tmp 47))⟩,
 (.take ⟨some 53, none, (.ofA (.isl 3 (.tmp 38) (.tmp 41)))⟩
  (.alt [false] [(⟨none, none, (.store 3 (.tmp 53) (.tmp 51))⟩,
 .done)])))])))))))))))))))))))
 (.tree (.seq ⟨some 54, none, (.ofA (.mv (.tmp 0)))⟩
  (.seq ⟨some 55, none, (.ofA (.mv (.tmp 9)))⟩
  (.seq ⟨some 56, none, (.ofA (.mv (.tmp 12)))⟩
  (.seq ⟨some 57, none, (.ofA (.mv (.tmp 8)))⟩
  (.seq ⟨some 58, none, (.ofA (.mv (.tmp 3)))⟩
  (.seq ⟨some 59, none, (.call (.cst (.fn 269 [])) [(.tmp 54), (.tmp 55), (.tmp 56), (.tmp 57), (.tmp 58)])⟩
  .done)))))))))
 (.tree (.seq ⟨some 34, none, (.ofA (.mv (.tmp 12)))⟩
  (.seq ⟨some 35, none, (.ofA (.bin .sub (.tmp 34) (.cst (.v (.int .i64 1)))))⟩
  (.seq ⟨some 12, none, (.ofA (.mv (.tmp 35)))⟩
  .done)))))))))))))
def r259 : List XR := []
theorem fn259 : FnX Tryz.prog 259 EFF 60 x259 r259 := ⟨_, Tryz.func259, by kernel_rfl, by kernel_rfl, by kernel_rfl, by kernel_rfl⟩
-- slices.breakPatternsCmpFunc[almshouse/heal.Spot] (4 parameters)
def x260 : XC := (.seq (.tree (.seq ⟨some 13, none, (.ofA (.mv (.tmp 2)))⟩
  (.seq ⟨some 14, none, (.ofA (.mv (.tmp 1)))⟩
  (.seq ⟨some 15, none, (.ofA (.bin .sub (.tmp 13) (.tmp 14)))⟩
  (.seq ⟨some 8, none, (.ofA (.mv (.tmp 15)))⟩
  .done)))))
 (.seq (.tree (.seq ⟨some 16, none, (.ofA (.mv (.tmp 8)))⟩
  (.seq ⟨some 17, none, (.ofA (.bin .geq (.tmp 16) (.cst (.v (.int .i64 8)))))⟩
  .done)))
 (.cond (.tmp 17)
 (.seq (.tree (.seq ⟨some 18, none, (.ofA (.mv (.tmp 8)))⟩
  (.seq ⟨some 19, none, (.ofA (.conv .u64 (.tmp 18)))⟩
  (.seq ⟨some 9, none, (.alloc [(.v (.int .u64 0))])⟩
  (.seq ⟨none, none, (.store 1 (.tmp 9) (.tmp 19))⟩
  .done)))))
 (.seq (.tree (.seq ⟨some 20, none, (.ofA (.mv (.tmp 8)))⟩
  (.seq ⟨some 21, none, (.call (.cst (.fn 250 [])) [(.tmp 20)])⟩
  (.seq ⟨some 10, none, (.ofA (.mv (.tmp 21)))⟩
  .done))))
 (.seq (.tree (.seq ⟨some 22, none, (.ofA (.mv (.tmp 1)))⟩
  (.seq ⟨some 23, none, (.ofA (.mv (.tmp 8)))⟩
  (.seq ⟨some 24, none, (.ofA (.bin .quo (.tmp 23) (.cst (.v (.int .i64 4)))))⟩
  (.seq ⟨some 25, none, (.ofA (.bin .mul (.tmp 24) (.cst (.v (.int .i64 2)))))⟩
  (.seq ⟨some 26, none, (.ofA (.bin .add (.tmp 22) (.tmp 25)))⟩
  (.seq ⟨some 27, none, (.ofA (.bin .sub (.tmp 26) (.cst (.v (.int .i64 1)))))⟩
  (.seq ⟨some 11, none, (.ofA (.mv (.tmp 27)))⟩
  .done))))))))
 (.block 0 (.loop (.seq (.seq (.tree (.seq ⟨some 28, none, (.ofA (.mv (.tmp 11)))⟩
  (.seq ⟨some 29, none, (.ofA (.mv (.tmp 1)))⟩
  (.seq ⟨some 30, none, (.ofA (.mv (.tmp 8)))⟩
  (.seq ⟨some 31, none, (.ofA (.bin .quo (.tmp 30) (.cst (.v (.int .i64 4)))))⟩
  (.seq ⟨some 32, none, (.ofA (.bin .mul (.tmp 31) (.cst (.v (.int .i64 2)))))⟩
  (.seq ⟨some 33, none, (.ofA (.bin .add (.tmp 29) (.tmp 32)))⟩
  (.seq ⟨some 34, none, (.ofA (.bin .add (.tmp 33) (.cst (.v (.int .i64 1)))))⟩
  (.seq ⟨some 35, none, (.ofA (.bin .leq (.tmp 28) (.tmp 34)))⟩
  .done)))))))))
 (.cond (.tmp 35)
 .skip
 (.exit 0)))
 (.seq (.block 1 (.seq (.tree (.seq ⟨some 38, none, (.call (.cst (.fn 251 [])) [(.tmp 9)])⟩
  (.seq ⟨some 39, none, (.ofA (.mv (.tmp 10)))⟩
  (.seq ⟨some 40, none, (.ofA (.bin .sub (.tmp 39) (.cst (.v (.int .u64 1)))))⟩
  (.seq ⟨some 41, none, (.ofA (.bin .and (.tmp 38) (.tmp 40)))⟩
  (.seq ⟨some 42, none, (.ofA (.conv .i64 (.tmp 41)))⟩
  (.seq ⟨some 12, none, (.ofA (.mv (.tmp 42)))⟩
  .done)))))))
 (.seq (.seq (.tree (.seq ⟨some 43, none, (.ofA (.mv (.tmp 12)))⟩
  (.seq ⟨some 44, none, (.ofA (.mv (.tmp 8)))⟩
  (.seq ⟨some 45, none, (.ofA (.bin .geq (.tmp 43) (.tmp 44)))⟩
  .done))))
 (.cond (.tmp 45)
 (.tree (.seq ⟨some 46, none, (.ofA (.mv (.tmp 12)))⟩
  (.seq ⟨some 47, none, (.ofA (.mv (.tmp 8)))⟩
  (.seq ⟨some 48, none, (.ofA (.bin .sub (.tmp 46) (.tmp 47)))⟩
  (.seq ⟨some 12, none, (.ofA (.mv (.tmp 48)))⟩
  .done)))))
 .skip))
 (.tree (.take ⟨some 49, none, (.ofA (.mv (.tmp 0)))⟩
  (.take ⟨some 50, none, (.ofA (.mv (.tmp 11)))⟩
  (.take ⟨some 51, none, (.ofA (.mv (.tmp 0)))⟩
  (.take ⟨some 52, none, (.ofA (.mv (.tmp 1)))⟩
  (.take ⟨some 53, none, (.ofA (.mv (.tmp 12)))⟩
  (.take ⟨some 54, none, (.ofA (.bin .add (.tmp 52) (.tmp 53)))⟩
  (.take ⟨some 55, none, (.ofA (.mv (.tmp 0)))⟩
  (.take ⟨some 56, none, (.ofA (.mv (.tmp 1)))⟩
  (.take ⟨some 57, none, (.ofA (.mv (.tmp 12)))⟩
  (.take ⟨some 58, none, (.ofA (.bin .add (.tmp 56) (.tmp 57)))⟩
  (.take ⟨some 59, none, (.ofA (.isl 3 (.tmp 55) (.tmp 58)))⟩
  (.take ⟨some 60, none, (.ofA (.load (some 3) (.tmp 59)))⟩
  (.take ⟨some 61, none, (.ofA (.mv (.tmp 0)))⟩
  (.take ⟨some 62, none, (.ofA (.mv (.tmp 11)))⟩
  (.take ⟨some 63, none, (.ofA (.isl 3 (.tmp 61) (.tmp 62)))⟩
  (.take ⟨some 64, none, (.ofA (.load (some 3) (.tmp 63)))⟩
  (.take ⟨some 65, none, (.ofA (.isl 3 (.tmp 49) (.tmp 50)))⟩
  (.alt [false] [(⟨none, none, (.store 3 (.tmp 65) (.tmp 60))⟩,
 (.take ⟨some 66, none, (.ofA (.isl 3 (.tmp 51) (.tmp 54)))⟩
  (.alt [false] [(⟨none, none, (.store 3 (.tmp 66) (.tmp 64))⟩,
 .done)])))]))))))))))))))))))))))
 (.tree (.seq ⟨some 36, none, (.ofA (.mv (.tmp 11)))⟩
  (.seq ⟨some 37, none, (.ofA (.bin .add (.tmp 36) (.cst (.v (.int .i64 1)))))⟩
  (.seq ⟨some 11, none, (.ofA (.mv (.tmp 37)))⟩
  .done)))))))))))
 .skip)))
def r260 : List XR := []
theorem fn260 : FnX Tryz.prog 260 EFF 67 x260 r260 := ⟨_, Tryz.func260, by kernel_rfl, by kernel_rfl, by kernel_rfl, by kernel_rfl⟩
-- slices.choosePivotCmpFunc[almshouse/heal.Spot] (4 parameters)
def x261 : XC := (.seq (.tree (.seq ⟨some 8, none, (.ofA (.mv (.cst (.v (.int .i64 0)))))⟩
  (.seq ⟨some 9, none, (.ofA (.mv (.cst (.v (.int .i64 0)))))⟩
  .done)))
 (.seq (.tree (.seq ⟨some 15, none, (.ofA (.mv (.tmp 2)))⟩
  (.seq ⟨some 16, none, (.ofA (.mv (.tmp 1)))⟩
  (.seq ⟨some 17, none, (.ofA (.bin .sub (.tmp 15) (.tmp 16)))⟩
  (.seq ⟨some 10, none, (.ofA (.mv (.tmp 17)))⟩
  .done)))))
 (.seq (.tree (.seq ⟨some 11, none, (.alloc [(.v (.int .i64 0))])⟩
  .done))
 (.seq (.tree (.seq ⟨some 18, none, (.ofA (.mv (.tmp 1)))⟩
  (.seq ⟨some 19, none, (.ofA (.mv (.tmp 10)))⟩
  (.seq ⟨some 20, none, (.ofA (.bin .quo (.tmp 19) (.cst (.v (.int .i64 4)))))⟩
  (.seq ⟨some 21, none, (.ofA (.bin .mul (.tmp 20) (.cst (.v (.int .i64 1)))))⟩
  (.seq ⟨some 22, none, (.ofA (.bin .add (.tmp 18) (.tmp 21)))⟩
  (.seq ⟨some 12, none, (.ofA (.mv (.tmp 22)))⟩
  .done)))))))
 (.seq (.tree (.seq ⟨some 23, none, (.ofA (.mv (.tmp 1)))⟩
  (.seq ⟨some 24, none, (.ofA (.mv (.tmp 10)))⟩
  (.seq ⟨some 25, none, (.ofA (.bin .quo (.tmp 24) (.cst (.v (.int .i64 4)))))⟩
  (.seq ⟨some 26, none, (.ofA (.bin .mul (.tmp 25) (.cst (.v (.int .i64 2)))))⟩
  (.seq ⟨some 27, none, (.ofA (.bin .add (.tmp 23) (.tmp 26)))⟩
  (.seq ⟨some 13, none, (.ofA (.mv (.tmp 27)))⟩
  .done)))))))
 (.seq (.tree (.seq ⟨some 28, none, (.ofA (.mv (.tmp 1)))⟩
  (.seq ⟨some 29, none, (.ofA (.mv (.tmp 10)))⟩
  (.seq ⟨some 30, none, (.ofA (.bin .quo (.tmp 29) (.cst (.v (.int .i64 4)))))⟩
  (.seq ⟨some 31, none, (.ofA (.bin .mul (.tmp 30) (.cst (.v (.int .i64 3)))))⟩
  (.seq ⟨some 32, none, (.ofA (.bin .add (.tmp 28) (.tmp 31)))⟩
  (.seq ⟨some 14, none, (.ofA (.mv (.tmp 32)))⟩
  .done)))))))
 (.seq (.seq (.tree (.seq ⟨some 33, none, (.ofA (.mv (.tmp 10)))⟩
  (.seq ⟨some 34, none, (.ofA (.bin .geq (.tmp 33) (.cst (.v (.int .i64 8)))))⟩
  .done)))
 (.cond (.tmp 34)
 (.seq (.seq (.tree (.seq ⟨some 35, none, (.ofA (.mv (.tmp 10)))⟩
  (.seq ⟨some 36, none, (.ofA (.bin .geq (.tmp 35) (.cst (.v (.int .i64 50)))))⟩
  .done)))
 (.cond (.tmp 36)
 (.seq (.tree (.seq ⟨some 37, none, (.ofA (.mv (.tmp 0)))⟩
  (.seq ⟨some 38, none, (.ofA (.mv (.tmp 12)))⟩
  (.seq ⟨some 39, none, (.ofA (.mv (.tmp 3)))⟩
  (.seq ⟨some 40, none, (.call (.cst (.fn 270 [])) [(.tmp 37), (.tmp 38), (.tmp 11), (.tmp 39)])⟩
  (.seq ⟨some 12, none, (.ofA (.mv (.tmp 40)))⟩
  .done))))))
 (.seq (.tree (.seq ⟨some 41, none, (.ofA (.mv (.tmp 0)))⟩
  (.seq ⟨some 42, none, (.ofA (.mv (.tmp 13)))⟩
  (.seq ⟨some 43, none, (.ofA (.mv (.tmp 3)))⟩
  (.seq ⟨some 44, none, (.call (.cst (.fn 270 [])) [(.tmp 41), (.tmp 42), (.tmp 11), (.tmp 43)])⟩
  (.seq ⟨some 13, none, (.ofA (.mv (.tmp 44)))⟩
  .done))))))
 (.tree (.seq ⟨some 45, none, (.ofA (.mv (.tmp 0)))⟩
  (.seq ⟨some 46, none, (.ofA (.mv (.tmp 14)))⟩
  (.seq ⟨some 47, none, (.ofA (.mv (.tmp 3)))⟩
  (.seq ⟨some 48, none, (.call (.cst (.fn 270 [])) [(.tmp 45), (.tmp 46), (.tmp 11), (.tmp 47)])⟩
  (.seq ⟨some 14, none, (.ofA (.mv (.tmp 48)))⟩
  .done))))))))
 .skip))
 (.tree (.seq ⟨some 49, none, (.ofA (.mv (.tmp 0)))⟩
  (.seq ⟨some 50, none, (.ofA (.mv (.tmp 12)))⟩
  (.seq ⟨some 51, none, (.ofA (.mv (.tmp 13)))⟩
  (.seq ⟨some 52, none, (.ofA (.mv (.tmp 14)))⟩
  (.seq ⟨some 53, none, (.ofA (.mv (.tmp 3)))⟩
  (.seq ⟨some 54, none, (.call (.cst (.fn 271 [])) [(.tmp 49), (.tmp 50), (.tmp 51), (.tmp 52), (.tmp 11), (.tmp 53)])⟩
  (.seq ⟨some 13, none, (.ofA (.mv (.tmp 54)))⟩
  .done)))))))))
 .skip))
 (.seq (.tree (.seq ⟨some 55, none, (.ofA (.load none (.tmp 11)))⟩
  .done))
 (.block 0 (.seq (.tree (.seq ⟨some 58, none, (.ofA (.bin .eql (.tmp 55) (.cst (.v (.int .i64 0)))))⟩
  (.seq ⟨some 57, none, (.ofA (.mv (.tmp 58)))⟩
  .done)))
 (.cond (.tmp 57)
 (.seq (.tree (.seq ⟨some 59, none, (.ofA (.mv (.tmp 13)))⟩
  (.seq ⟨some 8, none, (.ofA (.mv (.tmp 59)))⟩
  (.seq ⟨some 9, none, (.ofA (.mv (.cst (.v (.int .i64 1)))))⟩
  .done))))
 .ret)
 (.seq (.tree (.seq ⟨some 61, none, (.ofA (.bin .eql (.tmp 55) (.cst (.v (.int .i64 12)))))⟩
  (.seq ⟨some 60, none, (.ofA (.mv (.tmp 61)))⟩
  .done)))
 (.cond (.tmp 60)
 (.seq (.tree (.seq ⟨some 62, none, (.ofA (.mv (.tmp 13)))⟩
  (.seq ⟨some 8, none, (.ofA (.mv (.tmp 62)))⟩
  (.seq ⟨some 9, none, (.ofA (.mv (.cst (.v (.int .i64 2)))))⟩
  .done))))
 .ret)
 (.seq (.tree (.seq ⟨some 56, none, (.ofA (.mv (.tmp 13)))⟩
  (.seq ⟨some 8, none, (.ofA (.mv (.tmp 56)))⟩
  (.seq ⟨some 9, none, (.ofA (.mv (.cst (.v (.int .i64 0)))))⟩
  .done))))
 .ret))))))))))))))
def r261 : List XR := [.tmp 8, .tmp 9]
theorem fn261 : FnX Tryz.prog 261 EFF 63 x261 r261 := ⟨_, Tryz.func261, by kernel_rfl, by kernel_rfl, by kernel_rfl, by kernel_rfl⟩
-- slices.reverseRangeCmpFunc[almshouse/heal.Spot] (4 parameters)
def x262 : XC := (.seq (.tree (.seq ⟨some 10, none, (.ofA (.mv (.tmp 1)))⟩
  (.seq ⟨some 8, none, (.ofA (.mv (.tmp 10)))⟩
  .done)))
 (.seq (.tree (.seq ⟨some 11, none, (.ofA (.mv (.tmp 2)))⟩
  (.seq ⟨some 12, none, (.ofA (.bin .sub (.tmp 11) (.cst (.v (.int .i64 1)))))⟩
  (.seq ⟨some 9, none, (.ofA (.mv (.tmp 12)))⟩
  .done))))
 (.block 0 (.loop (.seq (.seq (.tree (.seq ⟨some 13, none, (.ofA (.mv (.tmp 8)))⟩
  (.seq ⟨some 14, none, (.ofA (.mv (.tmp 9)))⟩
  (.seq ⟨some 15, none, (.ofA (.bin .lss (.tmp 13) (.tmp 14)))⟩
  .done))))
 (.cond (.tmp 15)
 .skip
 (.exit 0)))
 (.block 1 (.seq (.tree (.take ⟨some 16, none, (.ofA (.mv (.tmp 0)))⟩
  (.take ⟨some 17, none, (.ofA (.mv (.tmp 8)))⟩
  (.take ⟨some 18, none, (.ofA (.mv (.tmp 0)))⟩
  (.take ⟨some 19, none, (.ofA (.mv (.tmp 9)))⟩
  (.take ⟨some 20, none, (.ofA (.mv (.tmp 0)))⟩
  (.take ⟨some 21, none, (.ofA (.mv (.tmp 9)))⟩
  (.take ⟨some 22, none, (.ofA (.isl 3 (.tmp 20) (.tmp 21)))⟩
  (.take ⟨some 23, none, (.ofA (.load (some 3) (.tmp 22)))⟩
  (.take ⟨some 24, none, (.ofA (.mv (.tmp 0)))⟩
  (.take ⟨some 25, none, (.ofA (.mv (.tmp 8)))⟩
  (.take ⟨some 26, none, (.ofA (.isl 3 (.tmp 24) (.tmp 25)))⟩
  (.take ⟨some 27, none, (.ofA (.load (some 3) (.tmp 26)))⟩
  (.take ⟨some 28, none, (.ofA (.isl 3 (.tmp 16) (.tmp 17)))⟩
  (.alt [false] [(⟨none, none, (.store 3 (.tmp 28) (.tmp 23))⟩,
 (.take ⟨some 29, none, (.ofA (.isl 3 (.tmp 18) (.tmp 19)))⟩
  (.alt [false] [(⟨none, none, (.store 3 (.tmp 29) (.tmp 27))⟩,
 .done)])))])))))))))))))))
 (.seq (.tree (.seq ⟨some 30, none, (.ofA (.mv (.tmp 8)))⟩
  (.seq ⟨some 31, none, (.ofA (.bin .add (.tmp 30) (.cst (.v (.int .i64 1)))))⟩
  (.seq ⟨some 8, none, (.ofA (.mv (.tmp 31)))⟩
  .done))))
 (.tree (.seq ⟨some 32, none, (.ofA (.mv (.tmp 9)))⟩
  (.seq ⟨some 33, none, (.ofA (.bin .sub (.tmp 32) (.cst (.v (.int .i64 1)))))⟩
  (.seq ⟨some 9, none, (.ofA (.mv (.tmp 33)))⟩
  .done))))))))))))
def r262 : List XR := []
theorem fn262 : FnX Tryz.prog 262 EFF 34 x262 r262 := ⟨_, Tryz.func262, by kernel_rfl, by kernel_rfl, by kernel_rfl, by kernel_rfl⟩
-- slices.partialInsertionSortCmpFunc[almshouse/heal.Spot] (4 parameters)
def x263 : XC := (.seq (.tree (.seq ⟨some 8, none, (.ofA (.mv (.cst (.v (.bool false)))))⟩
  .done))
 (.seq (.tree (.seq ⟨some 13, none, (.ofA (.mv (.tmp 1)))⟩
  (.seq ⟨some 14, none, (.ofA (.bin .add (.tmp 13) (.cst (.v (.int .i64 1)))))⟩
  (.seq ⟨some 9, none, (.ofA (.mv (.tmp 14)))⟩
  .done))))
 (.seq (.seq (.tree (.seq ⟨some 10, none, (.ofA (.mv (.cst (.v (.int .i64 0)))))⟩
  .done))
 (.block 0 (.loop (.seq (.seq (.tree (.seq ⟨some 15, none, (.ofA (.mv (.tmp 10)))⟩
  (.seq ⟨some 16, none, (.ofA (.bin .lss (.tmp 15) (.cst (.v (.int .i64 5)))))⟩
  .done)))
 (.cond (.tmp 16)
 .skip
 (.exit 0)))
 (.seq (.block 1 (.seq (.block 2 (.loop (.seq (.seq (.tree (.take ⟨some 19, none, (.ofA (.mv (.tmp 9)))⟩
  (.take ⟨some 20, none, (.ofA (.mv (.tmp 2)))⟩
  (.take ⟨some 21, none, (.ofA (.bin .lss (.tmp 19) (.tmp 20)))⟩
  (.take ⟨some 22, none, (.ofA (.mv (.tmp 21)))⟩
  (.take ⟨some 23, some (22, true), (.ofA (.mv (.tmp 3)))⟩
  (.take ⟨some 24, some (22, true), (.ofA (.mv (.tmp 0)))⟩
  (.take ⟨some 25, some (22, true), (.ofA (.mv (.tmp 9)))⟩
  (.take ⟨some 26, some (22, true), (.ofA (.isl 3 (.tmp 24) (.tmp 25)))⟩
  (.take ⟨some 27, some (22, true), (.ofA (.load (some 3) (.tmp 26)))⟩
  (.take ⟨some 28, some (22, true), (.ofA (.mv (.tmp 0)))⟩
  (.take ⟨some 29, some (22, true), (.ofA (.mv (.tmp 9)))⟩
  (.take ⟨some 30, some (22, true), (.ofA (.bin .sub (.tmp 29) (.cst (.v (.int .i64 1)))))⟩
  (.take ⟨some 31, some (22, true), (.ofA (.isl 3 (.tmp 28) (.tmp 30)))⟩
  (.take ⟨some 32, some (22, true), (.ofA (.load (some 3) (.tmp 31)))⟩
  (.alt [false] [(⟨some 33, some (22, true), (.call (.tmp 23) [(.tmp 27), (.tmp 32)])⟩,
 (.take ⟨some 34, some (22, true), (.ofA (.bin .lss (.tmp 33) (.cst (.v (.int .i64 0)))))⟩
  (.take ⟨some 35, some (22, true), (.ofA (.un .not (.tmp 34)))⟩
  (.take ⟨some 36, none, (.ofA (.pick (.tmp 22) (.tmp 35) (.cst (.v (.bool false)))))⟩
  .done))))]))))))))))))))))
 (.cond (.tmp 36)
 .skip
 (.exit 2)))
 (.block 3 (.tree (.seq ⟨some 37, none, (.ofA (.mv (.tmp 9)))⟩
  (.seq ⟨some 38, none, (.ofA (.bin .add (.tmp 37) (.cst (.v (.int .i64 1)))))⟩
  (.seq ⟨some 9, none, (.ofA (.mv (.tmp 38)))⟩
  .done))))))))
 (.seq (.seq (.tree (.seq ⟨some 39, none, (.ofA (.mv (.tmp 9)))⟩
  (.seq ⟨some 40, none, (.ofA (.mv (.tmp 2)))⟩
  (.seq ⟨some 41, none, (.ofA (.bin .eql (.tmp 39) (.tmp 40)))⟩
  .done))))
 (.cond (.tmp 41)
 (.seq (.tree (.seq ⟨some 8, none, (.ofA (.mv (.cst (.v (.bool true)))))⟩
  .done))
 .ret)
 .skip))
 (.seq (.seq (.tree (.seq ⟨some 42, none, (.ofA (.mv (.tmp 2)))⟩
  (.seq ⟨some 43, none, (.ofA (.mv (.tmp 1)))⟩
  (.seq ⟨some 44, none, (.ofA (.bin .sub (.tmp 42) (.tmp 43)))⟩
  (.seq ⟨some 45, none, (.ofA (.bin .lss (.tmp 44) (.cst (.v (.int .i64 50)))))⟩
  .done)))))
 (.cond (.tmp 45)
 (.seq (.tree (.seq ⟨some 8, none, (.ofA (.mv (.cst (.v (.bool false)))))⟩
  .done))
 .ret)
 .skip))
 (.seq (.tree (.take ⟨some 46, none, (.ofA (.mv (.tmp 0)))⟩
  (.take ⟨some 47, none, (.ofA (.mv (.tmp 9)))⟩
  (.take ⟨some 48, none, (.ofA (.mv (.tmp 0)))⟩
  (.take ⟨some 49, none, (.ofA (.mv (.tmp 9)))⟩
  (.take ⟨some 50, none, (.ofA (.bin .sub (.tmp 49) (.cst (.v (.int .i64 1)))))⟩
  (.take ⟨some 51, none, (.ofA (.mv (.tmp 0)))⟩
  (.take ⟨some 52, none, (.ofA (.mv (.tmp 9)))⟩
  (.take ⟨some 53, none, (.ofA (.bin .sub (.tmp 52) (.cst (.v (.int .i64 1)))))⟩
  (.take ⟨some 54, none, (.ofA (.isl 3 (.tmp 51) (.tmp 53)))⟩
  (.take ⟨some 55, none, (.ofA (.load (some 3) (.tmp 54)))⟩
  (.take ⟨some 56, none, (.ofA (.mv (.tmp 0)))⟩
  (.take ⟨some 57, none, (.ofA (.mv (.tmp 9)))⟩
  (.take ⟨some 58, none, (.ofA (.isl 3 (.tmp 56) (.tmp 57)))⟩
  (.take ⟨some 59, none, (.ofA (.load (some 3) (.tmp 58)))⟩
  (.take ⟨some 60, none, (.ofA (.isl 3 (.tmp 46) (.tmp 47)))⟩
  (.alt [false] [(⟨none, none, (.store 3 (.tmp 60) (.tmp 55))⟩,
 (.take ⟨some 61, none, (.ofA (.isl 3 (.tmp 48) (.tmp 50)))⟩
  (.alt [false] [(⟨none, none, (.store 3 (.tmp 61) (.tmp 59))⟩,
 .done)])))])))))))))))))))))
 (.seq (.seq (.tree (.seq ⟨some 62, none, (.ofA (.mv (.tmp 9)))⟩
  (.seq ⟨some 63, none, (.ofA (.mv (.tmp 1)))⟩
  (.seq ⟨some 64, none, (.ofA (.bin .sub (.tmp 62) (.tmp 63)))⟩
  (.seq ⟨some 65, none, (.ofA (.bin .geq (.tmp 64) (.cst (.v (.int .i64 2)))))⟩
  .done)))))
 (.cond (.tmp 65)
 (.seq (.tree (.seq ⟨some 66, none, (.ofA (.mv (.tmp 9)))⟩
  (.seq ⟨some 67, none, (.ofA (.bin .sub (.tmp 66) (.cst (.v (.int .i64 1)))))⟩
  (.seq ⟨some 11, none, (.ofA (.mv (.tmp 67)))⟩
  .done))))
 (.block 4 (.loop (.seq (.seq (.tree (.seq ⟨some 68, none, (.ofA (.mv (.tmp 11)))⟩
  (.seq ⟨some 69, none, (.ofA (.bin .geq (.tmp 68) (.cst (.v (.int .i64 1)))))⟩
  .done)))
 (.cond (.tmp 69)
 .skip
 (.exit 4)))
 (.seq (.block 5 (.seq (.seq (.tree (.take ⟨some 72, none, (.ofA (.mv (.tmp 3)))⟩
  (.take ⟨some 73, none, (.ofA (.mv (.tmp 0)))⟩
  (.take ⟨some 74, none, (.ofA (.mv (.tmp 11)))⟩
  (.take ⟨some 75, none, (.ofA (.isl 3 (.tmp 73) (.tmp 74)))⟩
  (.take ⟨some 76, none, (.ofA (.load (some 3) (.tmp 75)))⟩
  (.take ⟨some 77, none, (.ofA (.mv (.tmp 0)))⟩
  (.take ⟨some 78, none, (.ofA (.mv (.tmp 11)))⟩
  (.take ⟨some 79, none, (.ofA (.bin .sub (.tmp 78) (.cst (.v (.int .i64 1)))))⟩
  (.take ⟨some 80, none, (.ofA (.isl 3 (.tmp 77) (.tmp 79)))⟩
  (.take ⟨some 81, none, (.ofA (.load (some 3) (.tmp 80)))⟩
  (.alt [false] [(⟨some 82, none, (.call (.tmp 72) [(.tmp 76), (.tmp 81)])⟩,
 (.take ⟨some 83, none, (.ofA (.bin .lss (.tmp 82) (.cst (.v (.int .i64 0)))))⟩
  (.take ⟨some 84, none, (.ofA (.un .not (.tmp 83)))⟩
  .done)))]))))))))))))
 (.cond (.tmp 84)
 (.exit 4)
 .skip))
 (.tree (.take ⟨some 85, none, (.ofA (.mv (.tmp 0)))⟩
  (.take ⟨some 86, none, (.ofA (.mv (.tmp 11)))⟩
  (.take ⟨some 87, none, (.ofA (.mv (.tmp 0)))⟩
  (.take ⟨some 88, none, (.ofA (.mv (.tmp 11)))⟩
  (.take ⟨some 89, none, (.ofA (.bin .sub (.tmp 88) (.cst (.v (.int .i64 1)))))⟩
  (.take ⟨some 90, none, (.ofA (.mv (.tmp 0)))⟩
  (.take ⟨some 91, none, (.ofA (.mv (.tmp 11)))⟩
  (.take ⟨some 92, none, (.ofA (.bin .sub (.tmp 91) (.cst (.v (.int .i64 1)))))⟩
  (.take ⟨some 93, none, (.ofA (.isl 3 (.tmp 90) (.tmp 92)))⟩
  (.take ⟨some 94, none, (.ofA (.load (some 3) (.tmp 93)))⟩
  (.take ⟨some 95, none, (.ofA (.mv (.tmp 0)))⟩
  (.take ⟨some 96, none, (.ofA (.mv (.tmp 11)))⟩
  (.take ⟨some 97, none, (.ofA (.isl 3 (.tmp 95) (.tmp 96)))⟩
  (.take ⟨some 98, none, (.ofA (.load (some 3) (.tmp 97)))⟩
  (.take ⟨some 99, none, (.ofA (.isl 3 (.tmp 85) (.tmp 86)))⟩
  (.alt [false] [(⟨none, none, (.store 3 (.tmp 99) (.tmp 94))⟩,
 (.take ⟨some 100, none, (.ofA (.isl 3 (.tmp 87) (.tmp 89)))⟩
  (.alt [false] [(⟨none, none, (.store 3 (.tmp 100) (.tmp 98))⟩,
 .done)])))])))))))))))))))))))
 (.tree (.seq ⟨some 70, none, (.ofA (.mv (.tmp 11)))⟩
  (.seq ⟨some 71, none, (.ofA (.bin .sub (.tmp 70) (.cst (.v (.int .i64 1)))))⟩
  (.seq ⟨some 11, none, (.ofA (.mv (.tmp 71)))⟩
  .done)))))))))
 .skip))
 (.seq (.tree (.seq ⟨some 101, none, (.ofA (.mv (.tmp 2)))⟩
  (.seq ⟨some 102, none, (.ofA (.mv (.tmp 9)))⟩
  (.seq ⟨some 103, none, (.ofA (.bin .sub (.tmp 101) (.tmp 102)))⟩
  (.seq ⟨some 104, none, (.ofA (.bin .geq (.tmp 103) (.cst (.v (.int .i64 2)))))⟩
  .done)))))
 (.cond (.tmp 104)
 (.seq (.tree (.seq ⟨some 105, none, (.ofA (.mv (.tmp 9)))⟩
  (.seq ⟨some 106, none, (.ofA (.bin .add (.tmp 105) (.cst (.v (.int .i64 1)))))⟩
  (.seq ⟨some 12, none, (.ofA (.mv (.tmp 106)))⟩
  .done))))
 (.block 6 (.loop (.seq (.seq (.tree (.seq ⟨some 107, none, (.ofA (.mv (.tmp 12)))⟩
  (.seq ⟨some 108, none, (.ofA (.mv (.tmp 2)))⟩
  (.seq ⟨some 109, none, (.ofA (.bin .lss (.tmp 107) (.tmp 108)))⟩
  .done))))
 (.cond (.tmp 109)
 .skip
 (.exit 6)))
 (.seq (.block 7 (.seq (.seq (.tree (.take ⟨some 112, none, (.ofA (.mv (.tmp 3)))⟩
  (.take ⟨some 113, none, (.ofA (.mv (.tmp 0)))⟩
  (.take ⟨some 114, none, (.ofA (.mv (.tmp 12)))⟩
  (.take ⟨some 115, none, (.ofA (.isl 3 (.tmp 113) (.tmp 114)))⟩
  (.take ⟨some 116, none, (.ofA (.load (some 3) (.tmp 115)))⟩
  (.take ⟨some 117, none, (.ofA (.mv (.tmp 0)))⟩
  (.take ⟨some 118, none, (.ofA (.mv (.tmp 12)))⟩
  (.take ⟨some 119, none, (.ofA (.bin .sub (.tmp 118) (.cst (.v (.int .i64 1)))))⟩
  (.take ⟨some 120, none, (.ofA (.isl 3 (.tmp 117) (.tmp 119)))⟩
  (.take ⟨some 121, none, (.ofA (.load (some 3) (.tmp 120)))⟩
  (.alt [false] [(⟨some 122, none, (.call (.tmp 112) [(.tmp 116), (.tmp 121)])⟩,
 (.take ⟨some 123, none, (.ofA (.bin .lss (.tmp 122) (.cst (.v (.int .i64 0)))))⟩
  (.take ⟨some 124, none, (.ofA (.un .not (.tmp 123)))⟩
  .done)))]))))))))))))
 (.cond (.tmp 124)
 (.exit 6)
 .skip))
 (.tree (.take ⟨some 125, none, (.ofA (.mv (.tmp 0)))⟩
  (.take ⟨some 126, none, (.ofA (.mv (.tmp 12)))⟩
  (.take ⟨some 127, none, (.ofA (.mv (.tmp 0)))⟩
  (.take ⟨some 128, none, (.ofA (.mv (.tmp 12)))⟩
  (.take ⟨some 129, none, (.ofA (.bin .sub (.tmp 128) (.cst (.v (.int .i64 1)))))⟩
  (.take ⟨some 130, none, (.ofA (.mv (.tmp 0)))⟩
  (.take ⟨some 131, none, (.ofA (.mv (.tmp 12)))⟩
  (.take ⟨some 132, none, (.ofA (.bin .sub (.tmp 131) (.cst (.v (.int .i64 1)))))⟩
  (.take ⟨some 133, none, (.ofA (.isl 3 (.tmp 130) (.tmp 132)))⟩
  (.take ⟨some 134, none, (.ofA (.load (some 3) (.tmp 133)))⟩
  (.take ⟨some 135, none, (.ofA (.mv (.tmp 0)))⟩
  (.take ⟨some 136, none, (.ofA (.mv (.tmp 12)))⟩
  (.take ⟨some 137, none, (.ofA (.isl 3 (.tmp 135) (.tmp 136)))⟩
  (.take ⟨some 138, none, (.ofA (.load (some 3) (.tmp 137)))⟩
  (.take ⟨some 139, none, (.ofA (.isl 3 (.tmp 125) (.tmp 126)))⟩
  (.alt [false] [(⟨none, none, (.store 3 (.tmp 139) (.tmp 134))⟩,
 (.take ⟨some 140, none, (.ofA (.isl 3 (.tmp 127) (.tmp 129)))⟩
  (.alt [false] [(⟨none, none, (.store 3 (.tmp 140) (.tmp 138))⟩,
 .done)])))])))))))))))))))))))
 (.tree (.seq ⟨some 110, none, (.ofA (.mv (.tmp 12)))⟩
  (.seq ⟨some 111, none, (.ofA (.bin .add (.tmp 110) (.cst (.v (.int .i64 1)))))⟩
  (.seq ⟨some 12, none, (.ofA (.mv (.tmp 111)))⟩
  .done)))))))))
 .skip))))))))
 (.tree (.seq ⟨some 17, none, (.ofA (.mv (.tmp 10)))⟩
  (.seq ⟨some 18, none, (.ofA (.bin .add (.tmp 17) (.cst (.v (.int .i64 1)))))⟩
  (.seq ⟨some 10, none, (.ofA (.mv (.tmp 18)))⟩
  .done)))))))))
 (.seq (.tree (.seq ⟨some 8, none, (.ofA (.mv (.cst (.v (.bool false)))))⟩
  .done))
 .ret))))
def r263 : List XR := [.tmp 8]
theorem fn263 : FnX Tryz.prog 263 EFF 141 x263 r263 := ⟨_, Tryz.func263, by kernel_rfl, by kernel_rfl, by kernel_rfl, by kernel_rfl⟩
-- slices.partitionEqualCmpFunc[almshouse/heal.Spot] (5 parameters)
def x264 : XC := (.seq (.tree (.seq ⟨some 10, none, (.ofA (.mv (.cst (.v (.int .i64 0)))))⟩
  .done))
 (.seq (.tree (.take ⟨some 13, none, (.ofA (.mv (.tmp 0)))⟩
  (.take ⟨some 14, none, (.ofA (.mv (.tmp 1)))⟩
  (.take ⟨some 15, none, (.ofA (.mv (.tmp 0)))⟩
  (.take ⟨some 16, none, (.ofA (.mv (.tmp 3)))⟩
  (.take ⟨some 17, none, (.ofA (.mv (.tmp 0)))⟩
  (.take ⟨some 18, none, (.ofA (.mv (.tmp 3)))⟩
  (.take ⟨some 19, none, (.ofA (.isl 3 (.tmp 17) (.tmp 18)))⟩
  (.take ⟨some 20, none, (.ofA (.load (some 3) (.tmp 19)))⟩
  (.take ⟨some 21, none, (.ofA (.mv (.tmp 0)))⟩
  (.take ⟨some 22, none, (.ofA (.mv (.tmp 1)))⟩
  (.take ⟨some 23, none, (.ofA (.isl 3 (.tmp 21) (.tmp 22)))⟩
  (.take ⟨some 24, none, (.ofA (.load (some 3) (.tmp 23)))⟩
  (.take ⟨some 25, none, (.ofA (.isl 3 (.tmp 13) (.tmp 14)))⟩
  (.alt [false] [(⟨none, none, (.store 3 (.tmp 25) (.tmp 20))⟩,
 (.take ⟨some 26, none, (.ofA (.isl 3 (.tmp 15) (.tmp 16)))⟩
  (.alt [false] [(⟨none, none, (.store 3 (.tmp 26) (.tmp 24))⟩,
 .done)])))])))))))))))))))
 (.seq (.tree (.seq ⟨some 27, none, (.ofA (.mv (.tmp 1)))⟩
  (.seq ⟨some 28, none, (.ofA (.bin .add (.tmp 27) (.cst (.v (.int .i64 1)))))⟩
  (.seq ⟨some 29, none, (.ofA (.mv (.tmp 2)))⟩
  (.seq ⟨some 30, none, (.ofA (.bin .sub (.tmp 29) (.cst (.v (.int .i64 1)))))⟩
  (.seq ⟨some 11, none, (.ofA (.mv (.tmp 28)))⟩
  (.seq ⟨some 12, none, (.ofA (.mv (.tmp 30)))⟩
  .done)))))))
 (.seq (.block 0 (.loop (.block 1 (.seq (.block 2 (.loop (.seq (.seq (.tree (.take ⟨some 31, none, (.ofA (.mv (.tmp 11)))⟩
  (.take ⟨some 32, none, (.ofA (.mv (.tmp 12)))⟩
  (.take ⟨some 33, none, (.ofA (.bin .leq (.tmp 31) (.tmp 32)))⟩
  (.take ⟨some 34, none, (.ofA (.mv (.tmp 33)))⟩
  (.take ⟨some 35, some (34, true), (.ofA (.mv (.tmp 4)))⟩
  (.take ⟨some 36, some (34, true), (.ofA (.mv (.tmp 0)))⟩
  (.take ⟨some 37, some (34, true), (.ofA (.mv (.tmp 1)))⟩
  (.take ⟨some 38, some (34, true), (.ofA (.isl 3 (.tmp 36) (.tmp 37)))⟩
  (.take ⟨some 39, some (34, true), (.ofA (.load (some 3) (.tmp 38)))⟩
  (.take ⟨some 40, some (34, true), (.ofA (.mv (.tmp 0)))⟩
  (.take ⟨some 41, some (34, true), (.ofA (.mv (.tmp 11)))⟩
  (.take ⟨some 42, some (34, true), (.ofA (.isl 3 (.tmp 40) (.tmp 41)))⟩
  (.take ⟨some 43, some (34, true), (.ofA (.load (some 3) (.tmp 42)))⟩
  (.alt [false] [(⟨some 44, some (34, true), (.call (.tmp 35) [(.tmp 39), (.tmp 43)])⟩,
 (.take ⟨some 45, some (34, true), (.ofA (.bin .lss (.tmp 44) (.cst (.v (.int .i64 0)))))⟩
  (.take ⟨some 46, some (34, true), (.ofA (.un .not (.tmp 45)))⟩
  (.take ⟨some 47, none, (.ofA (.pick (.tmp 34) (.tmp 46) (.cst (.v (.bool false)))))⟩
  .done))))])))))))))))))))
 (.cond (.tmp 47)
 .skip
 (.exit 2)))
 (.block 3 (.tree (.seq ⟨some 48, none, (.ofA (.mv (.tmp 11)))⟩
  (.seq ⟨some 49, none, (.ofA (.bin .add (.tmp 48) (.cst (.v (.int .i64 1)))))⟩
  (.seq ⟨some 11, none, (.ofA (.mv (.tmp 49)))⟩
  .done))))))))
 (.seq (.block 4 (.loop (.seq (.seq (.tree (.take ⟨some 50, none, (.ofA (.mv (.tmp 11)))⟩
  (.take ⟨some 51, none, (.ofA (.mv (.tmp 12)))⟩
  (.take ⟨some 52, none, (.ofA (.bin .leq (.tmp 50) (.tmp 51)))⟩
  (.take ⟨some 53, none, (.ofA (.mv (.tmp 52)))⟩
  (.take ⟨some 54, some (53, true), (.ofA (.mv (.tmp 4)))⟩
  (.take ⟨some 55, some (53, true), (.ofA (.mv (.tmp 0)))⟩
  (.take ⟨some 56, some (53, true), (.ofA (.mv (.tmp 1)))⟩
  (.take ⟨some 57, some (53, true), (.ofA (.isl 3 (.tmp 55) (.tmp 56)))⟩
  (.take ⟨some 58, some (53, true), (.ofA (.load (some 3) (.tmp 57)))⟩
  (.take ⟨some 59, some (53, true), (.ofA (.mv (.tmp 0)))⟩
  (.take ⟨some 60, some (53, true), (.ofA (.mv (.tmp 12)))⟩
  (.take ⟨some 61, some (53, true), (.ofA (.isl 3 (.tmp 59) (.tmp 60)))⟩
  (.take ⟨some 62, some (53, true), (.ofA (.load (some 3) (.tmp 61)))⟩
  (.alt [false] [(⟨some 63, some (53, true), (.call (.tmp 54) [(.tmp 58), (.tmp 62)])⟩,
 (.take ⟨some 64, some (53, true), (.ofA (.bin .lss (.tmp 63) (.cst (.v (.int .i64 0)))))⟩
  (.take ⟨some 65, none, (.ofA (.pick (.tmp 53) (.tmp 64) (.cst (.v (.bool false)))))⟩
  .done)))])))))))))))))))
 (.cond (.tmp 65)
 .skip
 (.exit 4)))
 (.block 5 (.tree (.seq ⟨some 66, none, (.ofA (.mv (.tmp 12)))⟩
  (.seq ⟨some 67, none, (.ofA (.bin .sub (.tmp 66) (.cst (.v (.int .i64 1)))))⟩
  (.seq ⟨some 12, none, (.ofA (.mv (.tmp 67)))⟩
  .done))))))))
 (.seq (.seq (.tree (.seq ⟨some 68, none, (.ofA (.mv (.tmp 11)))⟩
  (.seq ⟨some 69, none, (.ofA (.mv (.tmp 12)))⟩
  (.seq ⟨some 70, none, (.ofA (.bin .gtr (.tmp 68) (.tmp 69)))⟩
  .done))))
 (.cond (.tmp 70)
 (.exit 0)
 .skip))
 (.seq (.tree (.take ⟨some 71, none, (.ofA (.mv (.tmp 0)))⟩
  (.take ⟨some 72, none, (.ofA (.mv (.tmp 11)))⟩
  (.take ⟨some 73, none, (.ofA (.mv (.tmp 0)))⟩
  (.take ⟨some 74, none, (.ofA (.mv (.tmp 12)))⟩
  (.take ⟨some 75, none, (.ofA (.mv (.tmp 0)))⟩
  (.take ⟨some 76, none, (.ofA (.mv (.tmp 12)))⟩
  (.take ⟨some 77, none, (.ofA (.isl 3 (.tmp 75) (.tmp 76)))⟩
  (.take ⟨some 78, none, (.ofA (.load (some 3) (.tmp 77)))⟩
  (.take ⟨some 79, none, (.ofA (.mv (.tmp 0)))⟩
  (.take ⟨some 80, none, (.ofA (.mv (.tmp 11)))⟩
  (.take ⟨some 81, none, (.ofA (.isl 3 (.tmp 79) (.tmp 80)))⟩
  (.take ⟨some 82, none, (.ofA (.load (some 3) (.tmp 81)))⟩
  (.take ⟨some 83, none, (.ofA (.isl 3 (.tmp 71) (.tmp 72)))⟩
  (.alt [false] [(⟨none, none, (.store 3 (.tmp 83) (.tmp 78))⟩,
 (.take ⟨some 84, none, (.ofA (.isl 3 (.tmp 73) (.tmp 74)))⟩
  (.alt [false] [(⟨none, none, (.store 3 (.tmp 84) (.tmp 82))⟩,
 .done)])))])))))))))))))))
 (.seq (.tree (.seq ⟨some 85, none, (.ofA (.mv (.tmp 11)))⟩
  (.seq ⟨some 86, none, (.ofA (.bin .add (.tmp 85) (.cst (.v (.int .i64 1)))))⟩
  (.seq ⟨some 11, none, (.ofA (.mv (.tmp 86)))⟩
  .done))))
 (.tree (.seq ⟨some 87, none, (.ofA (.mv (.tmp 12)))⟩
  (.seq ⟨some 88, none, (.ofA (.bin .sub (.tmp 87) (.cst (.v (.int .i64 1)))))⟩
  (.seq ⟨some 12, none, (.ofA (.mv (.tmp 88)))⟩
  .done))))))))))))
 (.seq (.tree (.seq ⟨some 89, none, (.ofA (.mv (.tmp 11)))⟩
  (.seq ⟨some 10, none, (.ofA (.mv (.tmp 89)))⟩
  .done)))
 .ret)))))
def r264 : List XR := [.tmp 10]
theorem fn264 : FnX Tryz.prog 264 EFF 90 x264 r264 := ⟨_, Tryz.func264, by kernel_rfl, by kernel_rfl, by kernel_rfl, by kernel_rfl⟩
-- slices.partitionCmpFunc[almshouse/heal.Spot] (5 parameters)
def x265 : XC := (.seq (.tree (.seq ⟨some 10, none, (.ofA (.mv (.cst (.v (.int .i64 0)))))⟩
  (.seq ⟨some 11, none, (.ofA (.mv (.cst (.v (.bool false)))))⟩
  .done)))
 (.seq (.tree (.take ⟨some 14, none, (.ofA (.mv (.tmp 0)))⟩
  (.take ⟨some 15, none, (.ofA (.mv (.tmp 1)))⟩
  (.take ⟨some 16, none, (.ofA (.mv (.tmp 0)))⟩
  (.take ⟨some 17, none, (.ofA (.mv (.tmp 3)))⟩
  (.take ⟨some 18, none, (.ofA (.mv (.tmp 0)))⟩
  (.take ⟨some 19, none, (.ofA (.mv (.tmp 3)))⟩
  (.take ⟨some 20, none, (.ofA (.isl 3 (.tmp 18) (.tmp 19)))⟩
  (.take ⟨some 21, none, (.ofA (.load (some 3) (.tmp 20)))⟩
  (.take ⟨some 22, none, (.ofA (.mv (.tmp 0)))⟩
  (.take ⟨some 23, none, (.ofA (.mv (.tmp 1)))⟩
  (.take ⟨some 24, none, (.ofA (.isl 3 (.tmp 22) (.tmp 23)))⟩
  (.take ⟨some 25, none, (.ofA (.load (some 3) (.tmp 24)))⟩
  (.take ⟨some 26, none, (.ofA (.isl 3 (.tmp 14) (.tmp 15)))⟩
  (.alt [false] [(⟨none, none, (.store 3 (.tmp 26) (.tmp 21))⟩,
 (.take ⟨some 27, none, (.ofA (.isl 3 (.tmp 16) (.tmp 17)))⟩
  (.alt [false] [(⟨none, none, (.store 3 (.tmp 27) (.tmp 25))⟩,
 .done)])))])))))))))))))))
 (.seq (.tree (.seq ⟨some 28, none, (.ofA (.mv (.tmp 1)))⟩
  (.seq ⟨some 29, none, (.ofA (.bin .add (.tmp 28) (.cst (.v (.int .i64 1)))))⟩
  (.seq ⟨some 30, none, (.ofA (.mv (.tmp 2)))⟩
  (.seq ⟨some 31, none, (.ofA (.bin .sub (.tmp 30) (.cst (.v (.int .i64 1)))))⟩
  (.seq ⟨some 12, none, (.ofA (.mv (.tmp 29)))⟩
  (.seq ⟨some 13, none, (.ofA (.mv (.tmp 31)))⟩
  .done)))))))
 (.seq (.block 0 (.loop (.seq (.seq (.tree (.take ⟨some 32, none, (.ofA (.mv (.tmp 12)))⟩
  (.take ⟨some 33, none, (.ofA (.mv (.tmp 13)))⟩
  (.take ⟨some 34, none, (.ofA (.bin .leq (.tmp 32) (.tmp 33)))⟩
  (.take ⟨some 35, none, (.ofA (.mv (.tmp 34)))⟩
  (.take ⟨some 36, some (35, true), (.ofA (.mv (.tmp 4)))⟩
  (.take ⟨some 37, some (35, true), (.ofA (.mv (.tmp 0)))⟩
  (.take ⟨some 38, some (35, true), (.ofA (.mv (.tmp 12)))⟩
  (.take ⟨some 39, some (35, true), (.ofA (.isl 3 (.tmp 37) (.tmp 38)))⟩
  (.take ⟨some 40, some (35, true), (.ofA (.load (some 3) (.tmp 39)))⟩
  (.take ⟨some 41, some (35, true), (.ofA (.mv (.tmp 0)))⟩
  (.take ⟨some 42, some (35, true), (.ofA (.mv (.tmp 1)))⟩
  (.take ⟨some 43, some (35, true), (.ofA (.isl 3 (.tmp 41) (.tmp 42)))⟩
  (.take ⟨some 44, some (35, true), (.ofA (.load (some 3) (.tmp 43)))⟩
  (.alt [false] [(⟨some 45, some (35, true), (.call (.tmp 36) [(.tmp 40), (.tmp 44)])⟩,
 (.take ⟨some 46, some (35, true), (.ofA (.bin .lss (.tmp 45) (.cst (.v (.int .i64 0)))))⟩
  (.take ⟨some 47, none, (.ofA (.pick (.tmp 35) (.tmp 46) (.cst (.v (.bool false)))))⟩
  .done)))])))))))))))))))
 (.cond (.tmp 47)
 .skip
 (.exit 0)))
 (.block 1 (.tree (.seq ⟨some 48, none, (.ofA (.mv (.tmp 12)))⟩
  (.seq ⟨some 49, none, (.ofA (.bin .add (.tmp 48) (.cst (.v (.int .i64 1)))))⟩
  (.seq ⟨some 12, none, (.ofA (.mv (.tmp 49)))⟩
  .done))))))))
 (.seq (.block 2 (.loop (.seq (.seq (.tree (.take ⟨some 50, none, (.ofA (.mv (.tmp 12)))⟩
  (.take ⟨some 51, none, (.ofA (.mv (.tmp 13)))⟩
  (.take ⟨some 52, none, (.ofA (.bin .leq (.tmp 50) (.tmp 51)))⟩
  (.take ⟨some 53, none, (.ofA (.mv (.tmp 52)))⟩
  (.take ⟨some 54, some (53, true), (.ofA (.mv (.tmp 4)))⟩
  (.take ⟨some 55, some (53, true), (.ofA (.mv (.tmp 0)))⟩
  (.take ⟨some 56, some (53, true), (.ofA (.mv (.tmp 13)))⟩
  (.take ⟨some 57, some (53, true), (.ofA (.isl 3 (.tmp 55) (.tmp 56)))⟩
  (.take ⟨some 58, some (53, true), (.ofA (.load (some 3) (.tmp 57)))⟩
  (.take ⟨some 59, some (53, true), (.ofA (.mv (.tmp 0)))⟩
  (.take ⟨some 60, some (53, true), (.ofA (.mv (.tmp 1)))⟩
  (.take ⟨some 61, some (53, true), (.ofA (.isl 3 (.tmp 59) (.tmp 60)))⟩
  (.take ⟨some 62, some (53, true), (.ofA (.load (some 3) (.tmp 61)))⟩
  (.alt [false] [(⟨some 63, some (53, true), (.call (.tmp 54) [(.tmp 58), (.tmp 62)])⟩,
 (.take ⟨some 64, some (53, true), (.ofA (.bin .lss (.tmp 63) (.cst (.v (.int .i64 0)))))⟩
  (.take ⟨some 65, some (53, true), (.ofA (.un .not (.tmp 64)))⟩
  (.take ⟨some 66, none, (.ofA (.pick (.tmp 53) (.tmp 65) (.cst (.v (.bool false)))))⟩
  .done))))])))))))))))))))
 (.cond (.tmp 66)
 .skip
 (.exit 2)))
 (.block 3 (.tree (.seq ⟨some 67, none, (.ofA (.mv (.tmp 13)))⟩
  (.seq ⟨some 68, none, (.ofA (.bin .sub (.tmp 67) (.cst (.v (.int .i64 1)))))⟩
  (.seq ⟨some 13, none, (.ofA (.mv (.tmp 68)))⟩
  .done))))))))
 (.seq (.seq (.tree (.seq ⟨some 69, none, (.ofA (.mv (.tmp 12)))⟩
  (.seq ⟨some 70, none, (.ofA (.mv (.tmp 13)))⟩
  (.seq ⟨some 71, none, (.ofA (.bin .gtr (.tmp 69) (.tmp 70)))⟩
  .done))))
 (.cond (.tmp 71)
 (.seq (.tree (.take ⟨some 72, none, (.ofA (.mv (.tmp 0)))⟩
  (.take ⟨some 73, none, (.ofA (.mv (.tmp 13)))⟩
  (.take ⟨some 74, none, (.ofA (.mv (.tmp 0)))⟩
  (.take ⟨some 75, none, (.ofA (.mv (.tmp 1)))⟩
  (.take ⟨some 76, none, (.ofA (.mv (.tmp 0)))⟩
  (.take ⟨some 77, none, (.ofA (.mv (.tmp 1)))⟩
  (.take ⟨some 78, none, (.ofA (.isl 3 (.tmp 76) (.tmp 77)))⟩
  (.take ⟨some 79, none, (.ofA (.load (some 3) (.tmp 78)))⟩
  (.take ⟨some 80, none, (.ofA (.mv (.tmp 0)))⟩
  (.take ⟨some 81, none, (.ofA (.mv (.tmp 13)))⟩
  (.take ⟨some 82, none, (.ofA (.isl 3 (.tmp 80) (.tmp 81)))⟩
  (.take ⟨some 83, none, (.ofA (.load (some 3) (.tmp 82)))⟩
  (.take ⟨some 84, none, (.ofA (.isl 3 (.tmp 72) (.tmp 73)))⟩
  (.alt [false] [(⟨none, none, (.store 3 (.tmp 84) (.tmp 79))⟩,
 (.take ⟨some 85, none, (.ofA (.isl 3 (.tmp 74) (.tmp 75)))⟩
  (.alt [false] [(⟨none, none, (.store 3 (.tmp 85) (.tmp 83))⟩,
 .done)])))])))))))))))))))
 (.seq (.tree (.seq ⟨some 86, none, (.ofA (.mv (.tmp 13)))⟩
  (.seq ⟨some 10, none, (.ofA (.mv (.tmp 86)))⟩
  (.seq ⟨some 11, none, (.ofA (.mv (.cst (.v (.bool true)))))⟩
  .done))))
 .ret))
 .skip))
 (.seq (.tree (.take ⟨some 87, none, (.ofA (.mv (.tmp 0)))⟩
  (.take ⟨some 88, none, (.ofA (.mv (.tmp 12)))⟩
  (.take ⟨some 89, none, (.ofA (.mv (.tmp 0)))⟩
  (.take ⟨some 90, none, (.ofA (.mv (.tmp 13)))⟩
  (.take ⟨some 91, none, (.ofA (.mv (.tmp 0)))⟩
  (.take ⟨some 92, none, (.ofA (.mv (.tmp 13)))⟩
  (.take ⟨some 93, none, (.ofA (.isl 3 (.tmp 91) (.tmp 92)))⟩
  (.take ⟨some 94, none, (.ofA (.load (some 3) (.tmp 93)))⟩
  (.take ⟨some 95, none, (.ofA (.mv (.tmp 0)))⟩
  (.take ⟨some 96, none, (.ofA (.mv (.tmp 12)))⟩
  (.take ⟨some 97, none, (.ofA (.isl 3 (.tmp 95) (.tmp 96)))⟩
  (.take ⟨some 98, none, (.ofA (.load (some 3) (.tmp 97)))⟩
  (.take ⟨some 99, none, (.ofA (.isl 3 (.tmp 87) (.tmp 88)))⟩
  (.alt [false] [(⟨none, none, (.store 3 (.tmp 99) (.tmp 94))⟩,
 (.take ⟨some 100, none, (.ofA (.isl 3 (.tmp 89) (.tmp 90)))⟩
  (.alt [false] [(⟨none, none, (.store 3 (.tmp 100) (.tmp 98))⟩,
 .done)])))])))))))))))))))
 (.seq (.tree (.seq ⟨some 101, none, (.ofA (.mv (.tmp 12)))⟩
  (.seq ⟨some 102, none, (.ofA (.bin .add (.tmp 101) (.cst (.v (.int .i64 1)))))⟩
  (.seq ⟨some 12, none, (.ofA (.mv (.tmp 102)))⟩
  .done))))
 (.seq (.tree (.seq ⟨some 103, none, (.ofA (.mv (.tmp 13)))⟩
  (.seq ⟨some 104, none, (.ofA (.bin .sub (.tmp 103) (.cst (.v (.int .i64 1)))))⟩
  (.seq ⟨some 13, none, (.ofA (.mv (.tmp 104)))⟩
  .done))))
 (.seq (.block 4 (.loop (.block 5 (.seq (.block 6 (.loop (.seq (.seq (.tree (.take ⟨some 105, none, (.ofA (.mv (.tmp 12)))⟩
  (.take ⟨some 106, none, (.ofA (.mv (.tmp 13)))⟩
  (.take ⟨some 107, none, (.ofA (.bin .leq (.tmp 105) (.tmp 106)))⟩
  (.take ⟨some 108, none, (.ofA (.mv (.tmp 107)))⟩
  (.take ⟨some 109, some (108, true), (.ofA (.mv (.tmp 4)))⟩
  (.take ⟨some 110, some (108, true), (.ofA (.mv (.tmp 0)))⟩
  (.take ⟨some 111, some (108, true), (.ofA (.mv (.tmp 12)))⟩
  (.take ⟨some 112, some (108, true), (.ofA (.isl 3 (.tmp 110) (.tmp 111)))⟩
  (.take ⟨some 113, some (108, true), (.ofA (.load (some 3) (.tmp 112)))⟩
  (.take ⟨some 114, some (108, true), (.ofA (.mv (.tmp 0)))⟩
  (.take ⟨some 115, some (108, true), (.ofA (.mv (.tmp 1)))⟩
  (.take ⟨some 116, some (108, true), (.ofA (.isl 3 (.tmp 114) (.tmp 115)))⟩
  (.take ⟨some 117, some (108, true), (.ofA (.load (some 3) (.tmp 116)))⟩
  (.alt [false] [(⟨some 118, some (108, true), (.call (.tmp 109) [(.tmp 113), (.tmp 117)])⟩,
 (.take ⟨some 119, some (108, true), (.ofA (.bin .lss (.tmp 118) (.cst (.v (.int .i64 0)))))⟩
  (.take ⟨some 120, none, (.ofA (.pick (.tmp 108) (.tmp 119) (.cst (.v (.bool false)))))⟩
  .done)))])))))))))))))))
 (.cond (.tmp 120)
 .skip
 (.exit 6)))
 (.block 7 (.tree (.seq ⟨some 121, none, (.ofA (.mv (.tmp 12)))⟩
  (.seq ⟨some 122, none, (.ofA (.bin .add (.tmp 121) (.cst (.v (.int .i64 1)))))⟩
  (.seq ⟨some 12, none, (.ofA (.mv (.tmp 122)))⟩
  .done))))))))
 (.seq (.block 8 (.loop (.seq (.seq (.tree (.take ⟨some 123, none, (.ofA (.mv (.tmp 12)))⟩
  (.take ⟨some 124, none, (.ofA (.mv (.tmp 13)))⟩
  (.take ⟨some 125, none, (.ofA (.bin .leq (.tmp 123) (.tmp 124)))⟩
  (.take ⟨some 126, none, (.ofA (.mv (.tmp 125)))⟩
  (.take ⟨some 127, some (126, true), (.ofA (.mv (.tmp 4)))⟩
  (.take ⟨some 128, some (126, true), (.ofA (.mv (.tmp 0)))⟩
  (.take ⟨some 129, some (126, true), (.ofA (.mv (.tmp 13)))⟩
  (.take ⟨some 130, some (126, true), (.ofA (.isl 3 (.tmp 128) (.tmp 129)))⟩
  (.take ⟨some 131, some (126, true), (.ofA (.load (some 3) (.tmp 130)))⟩
  (.take ⟨some 132, some (126, true), (.ofA (.mv (.tmp 0)))⟩
  (.take ⟨some 133, some (126, true), (.ofA (.mv (.tmp 1)))⟩
  (.take ⟨some 134, some (126, true), (.ofA (.isl 3 (.tmp 132) (.tmp 133)))⟩
  (.take ⟨some 135, some (126, true), (.ofA (.load (some 3) (.tmp 134)))⟩
  (.alt [false] [(⟨some 136, some (126, true), (.call (.tmp 127) [(.tmp 131), (.tmp 135)])⟩,
 (.take ⟨some 137, some (126, true), (.ofA (.bin .lss (.tmp 136) (.cst (.v (.int .i64 0)))))⟩
  (.take ⟨some 138, some (126, true), (.ofA (.un .not (.tmp 137)))⟩
  (.take ⟨some 139, none, (.ofA (.pick (.tmp 126) (.tmp 138) (.cst (.v (.bool false)))))⟩
  .done))))])))))))))))))))
 (.cond (.tmp 139)
 .skip
 (.exit 8)))
 (.block 9 (.tree (.seq ⟨some 140, none, (.ofA (.mv (.tmp 13)))⟩
  (.seq ⟨some 141, none, (.ofA (.bin .sub (.tmp 140) (.cst (.v (.int .i64 1)))))⟩
  (.seq ⟨some 13, none, (.ofA (.mv (.tmp 141)))⟩
  .done))))))))
 (.seq (.seq (.tree (.seq ⟨some 142, none, (.ofA (.mv (.tmp 12)))⟩
  (.seq ⟨some 143, none, (.ofA (.mv (.tmp 13)))⟩
  (.seq ⟨some 144, none, (.ofA (.bin .gtr (.tmp 142) (.tmp 143)))⟩
  .done))))
 (.cond (.tmp 144)
 (.exit 4)
 .skip))
 (.seq (.tree (.take ⟨some 145, none, (.ofA (.mv (.tmp 0)))⟩
  (.take ⟨some 146, none, (.ofA (.mv (.tmp 12)))⟩
  (.take ⟨some 147, none, (.ofA (.mv (.tmp 0)))⟩
  (.take ⟨some 148, none, (.ofA (.mv (.tmp 13)))⟩
  (.take ⟨some 149, none, (.ofA (.mv (.tmp 0)))⟩
  (.take ⟨some 150, none, (.ofA (.mv (.tmp 13)))⟩
  (.take ⟨some 151, none, (.ofA (.isl 3 (.tmp 149) (.tmp 150)))⟩
  (.take ⟨some 152, none, (.ofA (.load (some 3) (.tmp 151)))⟩
  (.take ⟨some 153, none, (.ofA (.mv (.tmp 0)))⟩
  (.take ⟨some 154, none, (.ofA (.mv (.tmp 12)))⟩
  (.take ⟨some 155, none, (.ofA (.isl 3 (.tmp 153) (.tmp 154)))⟩
  (.take ⟨some 156, none, (.ofA (.load (some 3) (.tmp 155)))⟩
  (.take ⟨some 157, none, (.ofA (.isl 3 (.tmp 145) (.tmp 146)))⟩
  (.alt [false] [(⟨none, none, (.store 3 (.tmp 157) (.tmp 152))⟩,
 (.take ⟨some 158, none, (.ofA (.isl 3 (.tmp 147) (.tmp 148)))⟩
  (.alt [false] [(⟨none, none, (.store 3 (.tmp 158) (.tmp 156))⟩,
 .done)])))])))))))))))))))
 (.seq (.tree (.seq ⟨some 159, none, (.ofA (.mv (.tmp 12)))⟩
  (.seq ⟨some 160, none, (.ofA (.bin .add (.tmp 159) (.cst (.v (.int .i64 1)))))⟩
  (.seq ⟨some 12, none, (.ofA (.mv (.tmp 160)))⟩
  .done))))
 (.tree (.seq ⟨some 161, none, (.ofA (.mv (.tmp 13)))⟩
  (.seq ⟨some 162, none, (.ofA (.bin .sub (.tmp 161) (.cst (.v (.int .i64 1)))))⟩
  (.seq ⟨some 13, none, (.ofA (.mv (.tmp 162)))⟩
  .done))))))))))))
 (.seq (.tree (.take ⟨some 163, none, (.ofA (.mv (.tmp 0)))⟩
  (.take ⟨some 164, none, (.ofA (.mv (.tmp 13)))⟩
  (.take ⟨some 165, none, (.ofA (.mv (.tmp 0)))⟩
  (.take ⟨some 166, none, (.ofA (.mv (.tmp 1)))⟩
  (.take ⟨some 167, none, (.ofA (.mv (.tmp 0)))⟩
  (.take ⟨some 168, none, (.ofA (.mv (.tmp 1)))⟩
  (.take ⟨some 169, none, (.ofA (.isl 3 (.tmp 167) (.tmp 168)))⟩
  (.take ⟨some 170, none, (.ofA (.load (some 3) (.tmp 169)))⟩
  (.take ⟨some 171, none, (.ofA (.mv (.tmp 0)))⟩
  (.take ⟨some 172, none, (.ofA (.mv (.tmp 13)))⟩
  (.take ⟨some 173, none, (.ofA (.isl 3 (.tmp 171) (.tmp 172)))⟩
  (.take ⟨some 174, none, (.ofA (.load (some 3) (.tmp 173)))⟩
  (.take ⟨some 175, none, (.ofA (.isl 3 (.tmp 163) (.tmp 164)))⟩
  (.alt [false] [(⟨none, none, (.store 3 (.tmp 175) (.tmp 170))⟩,
 (.take ⟨some 176, none, (.ofA (.isl 3 (.tmp 165) (.tmp 166)))⟩
  (.alt [false] [(⟨none, none, (.store 3 (.tmp 176) (.tmp 174))⟩,
 .done)])))])))))))))))))))
 (.seq (.tree (.seq ⟨some 177, none, (.ofA (.mv (.tmp 13)))⟩
  (.seq ⟨some 10, none, (.ofA (.mv (.tmp 177)))⟩
  (.seq ⟨some 11, none, (.ofA (.mv (.cst (.v (.bool false)))))⟩
  .done))))
 .ret))))))))))))
def r265 : List XR := [.tmp 10, .tmp 11]
theorem fn265 : FnX Tryz.prog 265 EFF 178 x265 r265 := ⟨_, Tryz.func265, by kernel_rfl, by kernel_rfl, by kernel_rfl, by kernel_rfl⟩
-- slices.order2Ordered[int] (4 parameters)
def x267 : XC := (.seq (.tree (.seq ⟨some 8, none, (.ofA (.mv (.cst (.v (.int .i64 0)))))⟩
  (.seq ⟨some 9, none, (.ofA (.mv (.cst (.v (.int .i64 0)))))⟩
  .done)))
 (.seq (.seq (.tree (.take ⟨some 10, none, (.ofA (.mv (.tmp 0)))⟩
  (.take ⟨some 11, none, (.ofA (.mv (.tmp 2)))⟩
  (.take ⟨some 12, none, (.ofA (.isl 1 (.tmp 10) (.tmp 11)))⟩
  (.take ⟨some 13, none, (.ofA (.load none (.tmp 12)))⟩
  (.take ⟨some 14, none, (.ofA (.mv (.tmp 0)))⟩
  (.take ⟨some 15, none, (.ofA (.mv (.tmp 1)))⟩
  (.take ⟨some 16, none, (.ofA (.isl 1 (.tmp 14) (.tmp 15)))⟩
  (.take ⟨some 17, none, (.ofA (.load none (.tmp 16)))⟩
  (.act true [(⟨some 18, none, (.call (.cst (.fn 223 [])) [(.tmp 13), (.tmp 17)])⟩,
 .done)]))))))))))
 (.cond (.tmp 18)
 (.seq (.tree (.seq ⟨some 19, none, (.ofA (.mv (.tmp 3)))⟩
  (.seq ⟨some 20, none, (.ofA (.nilc (.tmp 19)))⟩
  (.seq ⟨some 21, none, (.ofA (.load none (.tmp 20)))⟩
  (.seq ⟨some 22, none, (.ofA (.bin .add (.tmp 21) (.cst (.v (.int .i64 1)))))⟩
  (.seq ⟨some 23, none, (.ofA (.nilc (.tmp 19)))⟩
  (.seq ⟨none, none, (.store 1 (.tmp 23) (.tmp 22))⟩
  .done)))))))
 (.seq (.tree (.seq ⟨some 24, none, (.ofA (.mv (.tmp 2)))⟩
  (.seq ⟨some 25, none, (.ofA (.mv (.tmp 1)))⟩
  (.seq ⟨some 8, none, (.ofA (.mv (.tmp 24)))⟩
  (.seq ⟨some 9, none, (.ofA (.mv (.tmp 25)))⟩
  .done)))))
 .ret))
 .skip))
 (.seq (.tree (.seq ⟨some 26, none, (.ofA (.mv (.tmp 1)))⟩
  (.seq ⟨some 27, none, (.ofA (.mv (.tmp 2)))⟩
  (.seq ⟨some 8, none, (.ofA (.mv (.tmp 26)))⟩
  (.seq ⟨some 9, none, (.ofA (.mv (.tmp 27)))⟩
  .done)))))
 .ret)))
def r267 : List XR := [.tmp 8, .tmp 9]
theorem fn267 : FnX Tryz.prog 267 EFF 28 x267 r267 := ⟨_, Tryz.func267, by kernel_rfl, by kernel_rfl, by kernel_rfl, by kernel_rfl⟩
-- slices.siftDownCmpFunc[almshouse/heal.Spot] (5 parameters)
def x269 : XC := (.seq (.tree (.seq ⟨some 12, none, (.ofA (.mv (.tmp 1)))⟩
  (.seq ⟨some 10, none, (.ofA (.mv (.tmp 12)))⟩
  .done)))
 (.block 0 (.loop (.block 1 (.seq (.tree (.seq ⟨some 13, none, (.ofA (.mv (.tmp 10)))⟩
  (.seq ⟨some 14, none, (.ofA (.bin .mul (.cst (.v (.int .i64 2))) (.tmp 13)))⟩
  (.seq ⟨some 15, none, (.ofA (.bin .add (.tmp 14) (.cst (.v (.int .i64 1)))))⟩
  (.seq ⟨some 11, none, (.ofA (.mv (.tmp 15)))⟩
  .done)))))
 (.seq (.seq (.tree (.seq ⟨some 16, none, (.ofA (.mv (.tmp 11)))⟩
  (.seq ⟨some 17, none, (.ofA (.mv (.tmp 2)))⟩
  (.seq ⟨some 18, none, (.ofA (.bin .geq (.tmp 16) (.tmp 17)))⟩
  .done))))
 (.cond (.tmp 18)
 (.exit 0)
 .skip))
 (.seq (.seq (.tree (.take ⟨some 19, none, (.ofA (.mv (.tmp 11)))⟩
  (.take ⟨some 20, none, (.ofA (.bin .add (.tmp 19) (.cst (.v (.int .i64 1)))))⟩
  (.take ⟨some 21, none, (.ofA (.mv (.tmp 2)))⟩
  (.take ⟨some 22, none, (.ofA (.bin .lss (.tmp 20) (.tmp 21)))⟩
  (.take ⟨some 23, none, (.ofA (.mv (.tmp 22)))⟩
  (.take ⟨some 24, some (23, true), (.ofA (.mv (.tmp 4)))⟩
  (.take ⟨some 25, some (23, true), (.ofA (.mv (.tmp 0)))⟩
  (.take ⟨some 26, some (23, true), (.ofA (.mv (.tmp 3)))⟩
  (.take ⟨some 27, some (23, true), (.ofA (.mv (.tmp 11)))⟩
  (.take ⟨some 28, some (23, true), (.ofA (.bin .add (.tmp 26) (.tmp 27)))⟩
  (.take ⟨some 29, some (23, true), (.ofA (.isl 3 (.tmp 25) (.tmp 28)))⟩
  (.take ⟨some 30, some (23, true), (.ofA (.load (some 3) (.tmp 29)))⟩
  (.take ⟨some 31, some (23, true), (.ofA (.mv (.tmp 0)))⟩
  (.take ⟨some 32, some (23, true), (.ofA (.mv (.tmp 3)))⟩
  (.take ⟨some 33, some (23, true), (.ofA (.mv (.tmp 11)))⟩
  (.take ⟨some 34, some (23, true), (.ofA (.bin .add (.tmp 32) (.tmp 33)))⟩
  (.take ⟨some 35, some (23, true), (.ofA (.bin .add (.tmp 34) (.cst (.v (.int .i64 1)))))⟩
  (.take ⟨some 36, some (23, true), (.ofA (.isl 3 (.tmp 31) (.tmp 35)))⟩
  (.take ⟨some 37, some (23, true), (.ofA (.load (some 3) (.tmp 36)))⟩
  (.alt [false] [(⟨some 38, some (23, true), (.call (.tmp 24) [(.tmp 30), (.tmp 37)])⟩,
 (.take ⟨some 39, some (23, true), (.ofA (.bin .lss (.tmp 38) (.cst (.v (.int .i64 0)))))⟩
  (.take ⟨some 40, none, (.ofA (.pick (.tmp 23) (.tmp 39) (.cst (.v (.bool false)))))⟩
  .done)))])))))))))))))))))))))
 (.cond (.tmp 40)
 (.tree (.seq ⟨some 41, none, (.ofA (.mv (.tmp 11)))⟩
  (.seq ⟨some 42, none, (.ofA (.bin .add (.tmp 41) (.cst (.v (.int .i64 1)))))⟩
  (.seq ⟨some 11, none, (.ofA (.mv (.tmp 42)))⟩
  .done))))
 .skip))
 (.seq (.seq (.tree (.take ⟨some 43, none, (.ofA (.mv (.tmp 4)))⟩
  (.take ⟨some 44, none, (.ofA (.mv (.tmp 0)))⟩
  (.take ⟨some 45, none, (.ofA (.mv (.tmp 3)))⟩
  (.take ⟨some 46, none, (.ofA (.mv (.tmp 10)))⟩
  (.take ⟨some 47, none, (.ofA (.bin .add (.tmp 45) (.tmp 46)))⟩
  (.take ⟨some 48, none, (.ofA (.isl 3 (.tmp 44) (.tmp 47)))⟩
  (.take ⟨some 49, none, (.ofA (.load (some 3) (.tmp 48)))⟩
  (.take ⟨some 50, none, (.ofA (.mv (.tmp 0)))⟩
  (.take ⟨some 51, none, (.ofA (.mv (.tmp 3)))⟩
  (.take ⟨some 52, none, (.ofA (.mv (.tmp 11)))⟩
  (.take ⟨some 53, none, (.ofA (.bin .add (.tmp 51) (.tmp 52)))⟩
  (.take ⟨some 54, none, (.ofA (.isl 3 (.tmp 50) (.tmp 53)))⟩
  (.take ⟨some 55, none, (.ofA (.load (some 3) (.tmp 54)))⟩
  (.alt [false] [(⟨some 56, none, (.call (.tmp 43) [(.tmp 49), (.tmp 55)])⟩,
 (.take ⟨some 57, none, (.ofA (.bin .lss (.tmp 56) (.cst (.v (.int .i64 0)))))⟩
  (.take ⟨some 58, none, (.ofA (.un .not (.tmp 57)))⟩
  .done)))])))))))))))))))
 (.cond (.tmp 58)
 .ret
 .skip))
 (.seq (.tree (.take ⟨some 59, none, (.ofA (.mv (.tmp 0)))⟩
  (.take ⟨some 60, none, (.ofA (.mv (.tmp 3)))⟩
  (.take ⟨some 61, none, (.ofA (.mv (.tmp 10)))⟩
  (.take ⟨some 62, none, (.ofA (.bin .add (.tmp 60) (.tmp 61)))⟩
  (.take ⟨some 63, none, (.ofA (.mv (.tmp 0)))⟩
  (.take ⟨some 64, none, (.ofA (.mv (.tmp 3)))⟩
  (.take ⟨some 65, none, (.ofA (.mv (.tmp 11)))⟩
  (.take ⟨some 66, none, (.ofA (.bin .add (.tmp 64) (.tmp 65)))⟩
  (.take ⟨some 67, none, (.ofA (.mv (.tmp 0)))⟩
  (.take ⟨some 68, none, (.ofA (.mv (.tmp 3)))⟩
  (.take ⟨some 69, none, (.ofA (.mv (.tmp 11)))⟩
  (.take ⟨some 70, none, (.ofA (.bin .add (.tmp 68) (.tmp 69)))⟩
  (.take ⟨some 71, none, (.ofA (.isl 3 (.tmp 67) (.tmp 70)))⟩
  (.take ⟨some 72, none, (.ofA (.load (some 3) (.tmp 71)))⟩
  (.take ⟨some 73, none, (.ofA (.mv (.tmp 0)))⟩
  (.take ⟨some 74, none, (.ofA (.mv (.tmp 3)))⟩
  (.take ⟨some 75, none, (.ofA (.mv (.tmp 10)))⟩
  (.take ⟨some 76, none, (.ofA (.bin .add (.tmp 74) (.tmp 75)))⟩
  (.take ⟨some 77, none, (.ofA (.isl 3 (.tmp 73) (.tmp 76)))⟩
  (.take ⟨some 78, none, (.ofA (.load (some 3) (.tmp 77)))⟩
  (.take ⟨some 79, none, (.ofA (.isl 3 (.tmp 59) (.tmp 62)))⟩
  (.alt [false] [(⟨none, none, (.store 3 (.tmp 79) (.tmp 72))⟩,
 (.take ⟨some 80, none, (.ofA (.isl 3 (.tmp 63) (.tmp 66)))⟩
  (.alt [false] [(⟨none, none, (.store 3 (.tmp 80) (.tmp 78))⟩,
 .done)])))])))))))))))))))))))))))
 (.tree (.seq ⟨some 81, none, (.ofA (.mv (.tmp 11)))⟩
  (.seq ⟨some 10, none, (.ofA (.mv (.tmp 81)))⟩
  .done))))))))))))
def r269 : List XR := []
theorem fn269 : FnX Tryz.prog 269 EFF 82 x269 r269 := ⟨_, Tryz.func269, by kernel_rfl, by kernel_rfl, by kernel_rfl, by kernel_rfl⟩
-- slices.medianAdjacentCmpFunc[almshouse/heal.Spot] (4 parameters)
def x270 : XC := (.seq (.tree (.seq ⟨some 8, none, (.ofA (.mv (.cst (.v (.int .i64 0)))))⟩
  .done))
 (.seq (.tree (.seq ⟨some 9, none, (.ofA (.mv (.tmp 0)))⟩
  (.seq ⟨some 10, none, (.ofA (.mv (.tmp 1)))⟩
  (.seq ⟨some 11, none, (.ofA (.bin .sub (.tmp 10) (.cst (.v (.int .i64 1)))))⟩
  (.seq ⟨some 12, none, (.ofA (.mv (.tmp 1)))⟩
  (.seq ⟨some 13, none, (.ofA (.mv (.tmp 1)))⟩
  (.seq ⟨some 14, none, (.ofA (.bin .add (.tmp 13) (.cst (.v (.int .i64 1)))))⟩
  (.seq ⟨some 15, none, (.ofA (.mv (.tmp 2)))⟩
  (.seq ⟨some 16, none, (.ofA (.mv (.tmp 3)))⟩
  (.seq ⟨some 17, none, (.call (.cst (.fn 271 [])) [(.tmp 9), (.tmp 11), (.tmp 12), (.tmp 14), (.tmp 15), (.tmp 16)])⟩
  (.seq ⟨some 8, none, (.ofA (.mv (.tmp 17)))⟩
  .done)))))))))))
 .ret))
def r270 : List XR := [.tmp 8]
theorem fn270 : FnX Tryz.prog 270 EFF 18 x270 r270 := ⟨_, Tryz.func270, by kernel_rfl, by kernel_rfl, by kernel_rfl, by kernel_rfl⟩
-- slices.medianCmpFunc[almshouse/heal.Spot] (6 parameters)
def x271 : XC := (.seq (.tree (.seq ⟨some 12, none, (.ofA (.mv (.cst (.v (.int .i64 0)))))⟩
  .done))
 (.seq (.tree (.seq ⟨some 14, none, (.ofA (.mv (.tmp 0)))⟩
  (.seq ⟨some 15, none, (.ofA (.mv (.tmp 1)))⟩
  (.seq ⟨some 16, none, (.ofA (.mv (.tmp 2)))⟩
  (.seq ⟨some 17, none, (.ofA (.mv (.tmp 4)))⟩
  (.seq ⟨some 18, none, (.ofA (.mv (.tmp 5)))⟩
  (.seq ⟨some 19, none, (.call (.cst (.fn 273 [])) [(.tmp 14), (.tmp 15), (.tmp 16), (.tmp 17), (.tmp 18)])⟩
  (.seq ⟨some 13, none, (.ofA (.mv (.tmp 19)))⟩
  (.seq ⟨some 20, none, (.ofA (.extract 0 (.tmp 13)))⟩
  (.seq ⟨some 21, none, (.ofA (.extract 1 (.tmp 13)))⟩
  (.seq ⟨some 1, none, (.ofA (.mv (.tmp 20)))⟩
  (.seq ⟨some 2, none, (.ofA (.mv (.tmp 21)))⟩
  .done))))))))))))
 (.seq (.tree (.seq ⟨some 23, none, (.ofA (.mv (.tmp 0)))⟩
  (.seq ⟨some 24, none, (.ofA (.mv (.tmp 2)))⟩
  (.seq ⟨some 25, none, (.ofA (.mv (.tmp 3)))⟩
  (.seq ⟨some 26, none, (.ofA (.mv (.tmp 4)))⟩
  (.seq ⟨some 27, none, (.ofA (.mv (.tmp 5)))⟩
  (.seq ⟨some 28, none, (.call (.cst (.fn 273 [])) [(.tmp 23), (.tmp 24), (.tmp 25), (.tmp 26), (.tmp 27)])⟩
  (.seq ⟨some 22, none, (.ofA (.mv (.tmp 28)))⟩
  (.seq ⟨some 29, none, (.ofA (.extract 0 (.tmp 22)))⟩
  (.seq ⟨some 30, none, (.ofA (.extract 1 (.tmp 22)))⟩
  (.seq ⟨some 2, none, (.ofA (.mv (.tmp 29)))⟩
  (.seq ⟨some 3, none, (.ofA (.mv (.tmp 30)))⟩
  .done))))))))))))
 (.seq (.tree (.seq ⟨some 32, none, (.ofA (.mv (.tmp 0)))⟩
  (.seq ⟨some 33, none, (.ofA (.mv (.tmp 1)))⟩
  (.seq ⟨some 34, none, (.ofA (.mv (.tmp 2)))⟩
  (.seq ⟨some 35, none, (.ofA (.mv (.tmp 4)))⟩
  (.seq ⟨some 36, none, (.ofA (.mv (.tmp 5)))⟩
  (.seq ⟨some 37, none, (.call (.cst (.fn 273 [])) [(.tmp 32), (.tmp 33), (.tmp 34), (.tmp 35), (.tmp 36)])⟩
  (.seq ⟨some 31, none, (.ofA (.mv (.tmp 37)))⟩
  (.seq ⟨some 38, none, (.ofA (.extract 0 (.tmp 31)))⟩
  (.seq ⟨some 39, none, (.ofA (.extract 1 (.tmp 31)))⟩
  (.seq ⟨some 1, none, (.ofA (.mv (.tmp 38)))⟩
  (.seq ⟨some 2, none, (.ofA (.mv (.tmp 39)))⟩
  .done))))))))))))
 (.seq (.tree (.seq ⟨some 40, none, (.ofA (.mv (.tmp 2)))⟩
  (.seq ⟨some 12, none, (.ofA (.mv (.tmp 40)))⟩
  .done)))
 .ret)))))
def r271 : List XR := [.tmp 12]
theorem fn271 : FnX Tryz.prog 271 EFF 41 x271 r271 := ⟨_, Tryz.func271, by kernel_rfl, by kernel_rfl, by kernel_rfl, by kernel_rfl⟩
-- slices.order2CmpFunc[almshouse/heal.Spot] (5 parameters)
def x273 : XC := (.seq (.tree (.seq ⟨some 10, none, (.ofA (.mv (.cst (.v (.int .i64 0)))))⟩
  (.seq ⟨some 11, none, (.ofA (.mv (.cst (.v (.int .i64 0)))))⟩
  .done)))
 (.seq (.seq (.tree (.take ⟨some 12, none, (.ofA (.mv (.tmp 4)))⟩
  (.take ⟨some 13, none, (.ofA (.mv (.tmp 0)))⟩
  (.take ⟨some 14, none, (.ofA (.mv (.tmp 2)))⟩
  (.take ⟨some 15, none, (.ofA (.isl 3 (.tmp 13) (.tmp 14)))⟩
  (.take ⟨some 16, none, (.ofA (.load (some 3) (.tmp 15)))⟩
  (.take ⟨some 17, none, (.ofA (.mv (.tmp 0)))⟩
  (.take ⟨some 18, none, (.ofA (.mv (.tmp 1)))⟩
  (.take ⟨some 19, none, (.ofA (.isl 3 (.tmp 17) (.tmp 18)))⟩
  (.take ⟨some 20, none, (.ofA (.load (some 3) (.tmp 19)))⟩
  (.alt [false] [(⟨some 21, none, (.call (.tmp 12) [(.tmp 16), (.tmp 20)])⟩,
 (.take ⟨some 22, none, (.ofA (.bin .lss (.tmp 21) (.cst (.v (.int .i64 0)))))⟩
  .done))])))))))))))
 (.cond (.tmp 22)
 (.seq (.tree (.seq ⟨some 23, none, (.ofA (.mv (.tmp 3)))⟩
  (.seq ⟨some 24, none, (.ofA (.nilc (.tmp 23)))⟩
  (.seq ⟨some 25, none, (.ofA (.load none (.tmp 24)))⟩
  (.seq ⟨some 26, none, (.ofA (.bin .add (.tmp 25) (.cst (.v (.int .i64 1)))))⟩
  (.seq ⟨some 27, none, (.ofA (.nilc (.tmp 23)))⟩
  (.seq ⟨none, none, (.store 1 (.tmp 27) (.tmp 26))⟩
  .done)))))))
 (.seq (.tree (.seq ⟨some 28, none, (.ofA (.mv (.tmp 2)))⟩
  (.seq ⟨some 29, none, (.ofA (.mv (.tmp 1)))⟩
  (.seq ⟨some 10, none, (.ofA (.mv (.tmp 28)))⟩
  (.seq ⟨some 11, none, (.ofA (.mv (.tmp 29)))⟩
  .done)))))
 .ret))
 .skip))
 (.seq (.tree (.seq ⟨some 30, none, (.ofA (.mv (.tmp 1)))⟩
  (.seq ⟨some 31, none, (.ofA (.mv (.tmp 2)))⟩
  (.seq ⟨some 10, none, (.ofA (.mv (.tmp 30)))⟩
  (.seq ⟨some 11, none, (.ofA (.mv (.tmp 31)))⟩
  .done)))))
 .ret)))
def r273 : List XR := [.tmp 10, .tmp 11]
theorem fn273 : FnX Tryz.prog 273 EFF 32 x273 r273 := ⟨_, Tryz.func273, by kernel_rfl, by kernel_rfl, by kernel_rfl, by kernel_rfl⟩

theorem h193 : ∀ I : Inp, @Callable I Tryz.prog 193 false (natTr nStore) := fun I => store_nat e193
theorem h195 : ∀ I : Inp, @Callable I Tryz.prog 195 false (natTr nStore) := fun I => store_nat e195
theorem h196 : ∀ I : Inp, @Callable I Tryz.prog 196 true (natTr (nLoad .i64)) := fun I => load_nat e196
theorem h206 : ∀ I : Inp, @Callable I Tryz.prog 206 true (natTr (nLoad .u32)) := fun I => load_nat e206
theorem h268 : ∀ I : Inp, @Callable I Tryz.prog 268 false (natTr (nAdd .i64)) := fun I => add_nat e268
theorem fn246e : FnX Tryz.prog 246 EFF 5 x246 r246 := ⟨_, Tryz.func246, by kernel_rfl, by kernel_rfl, by kernel_rfl, by kernel_rfl⟩
def T43 : List RE := [.run 7 true ⟨x7, 70, r7, 7⟩, .run 11 true ⟨x11, 44, r11, 6⟩, .run 12 false ⟨x12, 12, r12, 4⟩, .run 14 false ⟨x14, 23, r14, 5⟩, .run 19 true ⟨x19, 28, r19, 5⟩, .run 20 true ⟨x20, 18, r20, 5⟩, .run 23 true ⟨x23, 11, r23, 4⟩, .run 29 false ⟨x29, 72, r29, 7⟩, .run 33 false ⟨x33, 23, r33, 5⟩, .run 35 false ⟨x35, 72, r35, 7⟩, .run 36 true ⟨x36, 11, r36, 4⟩, .run 39 true ⟨x39, 23, r39, 5⟩, .run 40 true ⟨x40, 9, r40, 4⟩, .run 42 true ⟨x42, 11, r42, 4⟩, .run 43 true ⟨x43, 88, r43, 7⟩, .run 44 true ⟨x44, 50, r44, 6⟩, .run 45 true ⟨x45, 6, r45, 3⟩, .run 47 true ⟨x47, 20, r47, 5⟩, .run 48 true ⟨x48, 26, r48, 5⟩, .run 49 true ⟨x49, 30, r49, 5⟩, .run 50 true ⟨x50, 70, r50, 7⟩, .run 51 false ⟨x51, 41, r51, 6⟩, .run 52 false ⟨x52, 53, r52, 6⟩, .run 53 true ⟨x53, 27, r53, 5⟩, .run 54 true ⟨x54, 10, r54, 4⟩, .run 55 true ⟨x55, 8, r55, 4⟩, .run 56 true ⟨x56, 3, r56, 2⟩, .run 57 false ⟨x57, 40, r57, 6⟩, .run 58 true ⟨x58, 9, r58, 4⟩, .run 59 false ⟨x59, 27, r59, 5⟩, .run 60 true ⟨x60, 18, r60, 5⟩, .run 61 true ⟨x61, 18, r61, 5⟩, .run 65 true ⟨x65, 65, r65, 7⟩, .run 68 false ⟨x68, 74, r68, 7⟩, .run 69 true ⟨x69, 24, r69, 5⟩, .run 70 true ⟨x70, 50, r70, 6⟩, .run 73 false ⟨x73, 41, r73, 6⟩, .run 75 true ⟨x75, 26, r75, 5⟩, .run 78 true ⟨x78, 10, r78, 4⟩, .run 79 false ⟨x79, 42, r79, 6⟩, .run 80 true ⟨x80, 18, r80, 5⟩, .run 81 true ⟨x81, 21, r81, 5⟩, .run 82 true ⟨x82, 9, r82, 4⟩, .run 83 false ⟨x83, 30, r83, 5⟩, .run 84 false ⟨x84, 28, r84, 5⟩, .run 85 false ⟨x85, 26, r85, 5⟩, .run 86 true ⟨x86, 3, r86, 2⟩, .run 96 false ⟨x96, 29, r96, 5⟩, .run 99 true ⟨x99, 11, r99, 4⟩, .run 100 false ⟨x100, 24, r100, 5⟩, .run 101 false ⟨x101, 32, r101, 6⟩, .run 102 false ⟨x102, 16, r102, 5⟩, .run 104 true ⟨x104, 10, r104, 4⟩, .run 105 true ⟨x105, 19, r105, 5⟩, .run 106 false ⟨x106, 24, r106, 5⟩, .run 107 true ⟨x107, 26, r107, 5⟩, .run 108 false ⟨x108, 10, r108, 4⟩, .run 109 false ⟨x109, 38, r109, 6⟩, .run 110 true ⟨x110, 8, r110, 4⟩, .run 111 true ⟨x111, 18, r111, 5⟩, .run 112 true ⟨x112, 9, r112, 4⟩, .run 113 true ⟨x113, 16, r113, 5⟩, .run 114 true ⟨x114, 12, r114, 4⟩, .run 116 true ⟨x116, 42, r116, 6⟩, .run 117 true ⟨x117, 79, r117, 7⟩, .run 118 true ⟨x118, 16, r118, 5⟩, .run 119 true ⟨x119, 57, r119, 6⟩, .run 120 true ⟨x120, 47, r120, 6⟩, .run 121 true ⟨x121, 12, r121, 4⟩, .run 122 false ⟨x122, 30, r122, 5⟩, .run 123 true ⟨x123, 12, r123, 4⟩, .run 124 false ⟨x124, 101, r124, 7⟩, .run 125 false ⟨x125, 26, r125, 5⟩, .run 126 true ⟨x126, 17, r126, 5⟩, .run 127 true ⟨x127, 15, r127, 4⟩, .run 128 true ⟨x128, 34, r128, 6⟩, .run 130 true ⟨x130, 10, r130, 4⟩, .run 132 true ⟨x132, 9, r132, 4⟩, .run 133 false ⟨x133, 11, r133, 4⟩, .run 136 true ⟨x136, 18, r136, 5⟩, .run 137 false ⟨x137, 10, r137, 4⟩, .run 138 false ⟨x138, 9, r138, 4⟩, .run 139 true ⟨x139, 20, r139, 5⟩, .run 140 true ⟨x140, 7, r140, 3⟩, .run 141 true ⟨x141, 16, r141, 5⟩, .run 142 true ⟨x142, 19, r142, 5⟩, .run 143 false ⟨x143, 20, r143, 5⟩, .run 144 false ⟨x144, 27, r144, 5⟩, .run 145 true ⟨x145, 33, r145, 6⟩, .run 146 true ⟨x146, 9, r146, 4⟩, .run 147 true ⟨x147, 17, r147, 5⟩, .run 148 false ⟨x148, 58, r148, 6⟩, .run 151 true ⟨x151, 15, r151, 4⟩, .run 153 true ⟨x153, 23, r153, 5⟩, .run 154 true ⟨x154, 66, r154, 7⟩, .run 156 true ⟨x156, 8, r156, 4⟩, .run 157 true ⟨x157, 8, r157, 4⟩, .run 158 false ⟨x158, 22, r158, 5⟩, .run 159 false ⟨x159, 49, r159, 6⟩, .run 160 false ⟨x160, 24, r160, 5⟩, .run 161 false ⟨x161, 26, r161, 5⟩, .run 162 true ⟨x162, 24, r162, 5⟩, .run 164 true ⟨x164, 19, r164, 5⟩, .run 166 true ⟨x166, 50, r166, 6⟩, .run 167 true ⟨x167, 14, r167, 4⟩, .run 168 true ⟨x168, 26, r168, 5⟩, .run 169 true ⟨x169, 8, r169, 4⟩, .run 170 true ⟨x170, 32, r170, 6⟩, .run 171 true ⟨x171, 7, r171, 3⟩, .run 172 false ⟨x172, 38, r172, 6⟩, .run 173 false ⟨x173, 12, r173, 4⟩, .run 174 false ⟨x174, 17, r174, 5⟩, .run 175 true ⟨x175, 31, r175, 5⟩, .run 176 true ⟨x176, 36, r176, 6⟩, .run 177 false ⟨x177, 87, r177, 7⟩, .run 178 true ⟨x178, 47, r178, 6⟩, .run 179 false ⟨x179, 80, r179, 7⟩, .run 184 true ⟨x184, 19, r184, 5⟩, .run 185 false ⟨x185, 134, r185, 8⟩, .run 186 true ⟨x186, 8, r186, 4⟩, .run 187 false ⟨x187, 26, r187, 5⟩, .run 190 true ⟨x190, 11, r190, 4⟩, .run 194 true ⟨x194, 4, r194, 3⟩, .run 197 true ⟨x197, 9, r197, 4⟩, .run 198 true ⟨x198, 38, r198, 6⟩, .run 199 false ⟨x199, 33, r199, 6⟩, .run 203 false ⟨x203, 14, r203, 4⟩, .run 205 true ⟨x205, 20, r205, 5⟩, .run 207 false ⟨x207, 41, r207, 6⟩, .run 208 true ⟨x208, 45, r208, 6⟩, .run 209 true ⟨x209, 13, r209, 4⟩, .run 211 false ⟨x211, 41, r211, 6⟩, .run 212 true ⟨x212, 12, r212, 4⟩, .run 214 true ⟨x214, 28, r214, 5⟩, .run 215 true ⟨x215, 27, r215, 5⟩, .run 216 false ⟨x216, 14, r216, 4⟩, .run 217 false ⟨x217, 49, r217, 6⟩, .run 218 false ⟨x218, 56, r218, 6⟩, .run 219 false ⟨x219, 65, r219, 7⟩, .run 220 false ⟨x220, 57, r220, 6⟩, .run 221 false ⟨x221, 32, r221, 6⟩, .run 222 false ⟨x222, 133, r222, 8⟩, .run 223 true ⟨x223, 17, r223, 5⟩, .run 224 false ⟨x224, 84, r224, 7⟩, .run 225 false ⟨x225, 168, r225, 8⟩, .run 226 true ⟨x226, 19, r226, 5⟩, .run 227 true ⟨x227, 25, r227, 5⟩, .run 228 false ⟨x228, 30, r228, 5⟩, .run 229 false ⟨x229, 27, r229, 5⟩, .run 230 true ⟨x230, 19, r230, 5⟩, .run 231 true ⟨x231, 8, r231, 4⟩, .run 232 true ⟨x232, 101, r232, 7⟩, .run 233 true ⟨x233, 38, r233, 6⟩, .run 237 true ⟨x237, 9, r237, 4⟩, .run 239 true ⟨x239, 18, r239, 5⟩, .run 240 false ⟨x240, 148, r240, 8⟩, .run 241 true ⟨x241, 6, r241, 3⟩, .run 242 false ⟨x242, 22, r242, 5⟩, .run 244 false ⟨x244, 40, r244, 6⟩, .run 245 true ⟨x245, 10, r245, 4⟩, .run 246 true ⟨x246, 5, r246, 3⟩, .run 247 true ⟨x247, 9, r247, 4⟩, .run 248 true ⟨x248, 15, r248, 4⟩, .run 249 false ⟨x249, 76, r249, 7⟩, .run 250 true ⟨x250, 7, r250, 3⟩, .run 251 false ⟨x251, 33, r251, 6⟩, .run 252 false ⟨x252, 15, r252, 4⟩, .run 253 false ⟨x253, 36, r253, 6⟩, .run 254 false ⟨x254, 10, r254, 4⟩, .run 255 true ⟨x255, 22, r255, 5⟩, .run 257 true ⟨x257, 19, r257, 5⟩, .run 258 false ⟨x258, 53, r258, 6⟩, .run 259 false ⟨x259, 60, r259, 6⟩, .run 260 false ⟨x260, 67, r260, 7⟩, .run 261 false ⟨x261, 63, r261, 6⟩, .run 262 false ⟨x262, 34, r262, 6⟩, .run 263 false ⟨x263, 141, r263, 8⟩, .run 264 false ⟨x264, 90, r264, 7⟩, .run 265 false ⟨x265, 178, r265, 8⟩, .run 267 false ⟨x267, 28, r267, 5⟩, .run 269 false ⟨x269, 82, r269, 7⟩, .run 270 false ⟨x270, 18, r270, 5⟩, .run 271 false ⟨x271, 41, r271, 6⟩, .run 273 false ⟨x273, 32, r273, 6⟩, .nat 193 false nStore, .nat 195 false nStore, .nat 196 true (nLoad .i64), .nat 206 true (nLoad .u32), .nat 266 true g242N, .nat 268 false (nAdd .i64)]
theorem T43_ok : TOk Tryz.prog EFF T43 := (TOk.run fn7 (TOk.run fn11 (TOk.run fn12 (TOk.run fn14 (TOk.run fn19 (TOk.run fn20 (TOk.run fn23 (TOk.run fn29 (TOk.run fn33 (TOk.run fn35 (TOk.run fn36 (TOk.run fn39 (TOk.run fn40 (TOk.run fn42 (TOk.run fn43 (TOk.run fn44 (TOk.run fn45 (TOk.run fn47 (TOk.run fn48 (TOk.run fn49 (TOk.run fn50 (TOk.run fn51 (TOk.run fn52 (TOk.run fn53 (TOk.run fn54 (TOk.run fn55 (TOk.run fn56 (TOk.run fn57 (TOk.run fn58 (TOk.run fn59 (TOk.run fn60 (TOk.run fn61 (TOk.run fn65 (TOk.run fn68 (TOk.run fn69 (TOk.run fn70 (TOk.run fn73 (TOk.run fn75 (TOk.run fn78 (TOk.run fn79 (TOk.run fn80 (TOk.run fn81 (TOk.run fn82 (TOk.run fn83 (TOk.run fn84 (TOk.run fn85 (TOk.run fn86 (TOk.run fn96 (TOk.run fn99 (TOk.run fn100 (TOk.run fn101 (TOk.run fn102 (TOk.run fn104 (TOk.run fn105 (TOk.run fn106 (TOk.run fn107 (TOk.run fn108 (TOk.run fn109 (TOk.run fn110 (TOk.run fn111 (TOk.run fn112 (TOk.run fn113 (TOk.run fn114 (TOk.run fn116 (TOk.run fn117 (TOk.run fn118 (TOk.run fn119 (TOk.run fn120 (TOk.run fn121 (TOk.run fn122 (TOk.run fn123 (TOk.run fn124 (TOk.run fn125 (TOk.run fn126 (TOk.run fn127 (TOk.run fn128 (TOk.run fn130 (TOk.run fn132 (TOk.run fn133 (TOk.run fn136 (TOk.run fn137 (TOk.run fn138 (TOk.run fn139 (TOk.run fn140 (TOk.run fn141 (TOk.run fn142 (TOk.run fn143 (TOk.run fn144 (TOk.run fn145 (TOk.run fn146 (TOk.run fn147 (TOk.run fn148 (TOk.run fn151 (TOk.run fn153 (TOk.run fn154 (TOk.run fn156 (TOk.run fn157 (TOk.run fn158 (TOk.run fn159 (TOk.run fn160 (TOk.run fn161 (TOk.run fn162 (TOk.run fn164 (TOk.run fn166 (TOk.run fn167 (TOk.run fn168 (TOk.run fn169 (TOk.run fn170 (TOk.run fn171 (TOk.run fn172 (TOk.run fn173 (TOk.run fn174 (TOk.run fn175 (TOk.run fn176 (TOk.run fn177 (TOk.run fn178 (TOk.run fn179 (TOk.run fn184 (TOk.run fn185 (TOk.run fn186 (TOk.run fn187 (TOk.run fn190 (TOk.run fn194 (TOk.run fn197 (TOk.run fn198 (TOk.run fn199 (TOk.run fn203 (TOk.run fn205 (TOk.run fn207 (TOk.run fn208 (TOk.run fn209 (TOk.run fn211 (TOk.run fn212 (TOk.run fn214 (TOk.run fn215 (TOk.run fn216 (TOk.run fn217 (TOk.run fn218 (TOk.run fn219 (TOk.run fn220 (TOk.run fn221 (TOk.run fn222 (TOk.run fn223 (TOk.run fn224 (TOk.run fn225 (TOk.run fn226 (TOk.run fn227 (TOk.run fn228 (TOk.run fn229 (TOk.run fn230 (TOk.run fn231 (TOk.run fn232 (TOk.run fn233 (TOk.run fn237 (TOk.run fn239 (TOk.run fn240 (TOk.run fn241 (TOk.run fn242 (TOk.run fn244 (TOk.run fn245 (TOk.run fn246e (TOk.run fn247 (TOk.run fn248 (TOk.run fn249 (TOk.run fn250 (TOk.run fn251 (TOk.run fn252 (TOk.run fn253 (TOk.run fn254 (TOk.run fn255 (TOk.run fn257 (TOk.run fn258 (TOk.run fn259 (TOk.run fn260 (TOk.run fn261 (TOk.run fn262 (TOk.run fn263 (TOk.run fn264 (TOk.run fn265 (TOk.run fn267 (TOk.run fn269 (TOk.run fn270 (TOk.run fn271 (TOk.run fn273 (TOk.nat h193 (TOk.nat h195 (TOk.nat h196 (TOk.nat h206 (TOk.nat h266 (TOk.nat h268 TOk.nil))))))))))))))))))))))))))))))))))))))))))))))))))))))))))))))))))))))))))))))))))))))))))))))))))))))))))))))))))))))))))))))))))))))))))))))))))))))))))))))))))))))))))))))))))))))))))))))


end Go.Proofs.YtdbjkklhgfhgnaaGreat
