/- Layer 46 (tally): TallyParts; by symbolic walks. -/
import Derived.Test.YtppndeoiifkkkaaTaD
import Derived.Test.YtppndeoiifkkkaaTaE
import Derived.Test.YtppndeoiifkkkaaSzS
namespace Go.Proofs.Ytppndeoiifkkkaa
open Go.RowKit Sz
set_option linter.unusedVariables false
set_option linter.unusedSimpArgs false
set_option maxHeartbeats 4000000
set_option maxRecDepth 20000
abbrev EFF : List FuncId := []
-- almshouse/almshouselaw46.fixed (0 parameters)
def x52 : XC := (.seq (.tree (.seq ⟨some 0, none, (.ofA (.mv (.cst (.v (.bool false)))))⟩
  .done))
 (.seq (.tree (.seq ⟨some 4, none, (.build [(.v (.int .i64 0)), (.v (.int .i64 0)), (.v (.string ⟨#[]⟩))] [(0, 1, (.cst (.v (.int .i64 3)))), (2, 1, (.cst (.v (.string ⟨#[97, 98]⟩))))])⟩
  (.seq ⟨some 5, none, (.build [(.v (.int .i64 0)), (.v (.int .i64 0)), (.v (.string ⟨#[]⟩))] [(0, 1, (.cst (.v (.int .i64 8)))), (1, 1, (.cst (.v (.int .i64 5))))])⟩
  (.seq ⟨some 6, none, (.buildSl 3 2 [(.v (.int .i64 0)), (.v (.int .i64 0)), (.v (.string ⟨#[]⟩)), (.v (.int .i64 0)), (.v (.int .i64 0)), (.v (.string ⟨#[]⟩))] [(0, 3, (.tmp 4)), (3, 3, (.tmp 5))])⟩
  (.seq ⟨some 7, none, (.call (.cst (.fn 54 [])) [(.tmp 6)])⟩
  (.seq ⟨some 1, none, (.alloc [(.v (.int .i64 0)), (.v (.int .i64 0)), (.v (.int .i64 0)), (.v (.int .i64 0)), (.v (.int .i64 0)), (.v (.int .i64 0)), (.v (.int .i64 0)), (.v (.int .i64 0)), (.v (.int .i64 0)), (.v (.int .i64 0)), (.v (.int .i64 0)), (.v (.int .i64 0)), (.v (.int .i64 0)), (.v (.int .i64 0)), (.v (.int .i64 0)), (.v (.int .i64 0)), (.v (.int .i64 0)), (.v (.int .i64 0)), (.v (.int .i64 0)), (.v (.int .i64 0))])⟩
  (.seq ⟨none, none, (.store 20 (.tmp 1) (.tmp 7))⟩
  .done)))))))
 (.seq (.tree (.seq ⟨some 8, none, (.call (.cst (.fn 54 [])) [(.cst (.v (.slice none 0 0)))])⟩
  (.seq ⟨some 2, none, (.alloc [(.v (.int .i64 0)), (.v (.int .i64 0)), (.v (.int .i64 0)), (.v (.int .i64 0)), (.v (.int .i64 0)), (.v (.int .i64 0)), (.v (.int .i64 0)), (.v (.int .i64 0)), (.v (.int .i64 0)), (.v (.int .i64 0)), (.v (.int .i64 0)), (.v (.int .i64 0)), (.v (.int .i64 0)), (.v (.int .i64 0)), (.v (.int .i64 0)), (.v (.int .i64 0)), (.v (.int .i64 0)), (.v (.int .i64 0)), (.v (.int .i64 0)), (.v (.int .i64 0))])⟩
  (.seq ⟨none, none, (.store 20 (.tmp 2) (.tmp 8))⟩
  .done))))
 (.seq (.tree (.seq ⟨some 9, none, (.build [(.v (.int .i64 0)), (.v (.int .i64 0)), (.v (.int .i64 0)), (.v (.int .i64 0)), (.v (.int .i64 0)), (.v (.int .i64 0)), (.v (.int .i64 0)), (.v (.string ⟨#[]⟩))] [(0, 1, (.cst (.v (.int .i64 5))))])⟩
  (.seq ⟨some 10, none, (.build [(.v (.int .i64 0)), (.v (.int .i64 0)), (.v (.int .i64 0)), (.v (.int .i64 0)), (.v (.int .i64 0)), (.v (.int .i64 0)), (.v (.int .i64 0)), (.v (.string ⟨#[]⟩))] [(0, 1, (.cst (.v (.int .i64 5))))])⟩
  (.seq ⟨some 11, none, (.build [(.v (.int .i64 0)), (.v (.int .i64 0)), (.v (.int .i64 0)), (.v (.int .i64 0)), (.v (.int .i64 0)), (.v (.int .i64 0)), (.v (.int .i64 0)), (.v (.string ⟨#[]⟩))] [(0, 1, (.cst (.v (.int .i64 77))))])⟩
  (.seq ⟨some 12, none, (.buildSl 8 3 [(.v (.int .i64 0)), (.v (.int .i64 0)), (.v (.int .i64 0)), (.v (.int .i64 0)), (.v (.int .i64 0)), (.v (.int .i64 0)), (.v (.int .i64 0)), (.v (.string ⟨#[]⟩)), (.v (.int .i64 0)), (.v (.int .i64 0)), (.v (.int .i64 0)), (.v (.int .i64 0)), (.v (.int .i64 0)), (.v (.int .i64 0)), (.v (.int .i64 0)), (.v (.string ⟨#[]⟩)), (.v (.int .i64 0)), (.v (.int .i64 0)), (.v (.int .i64 0)), (.v (.int .i64 0)), (.v (.int .i64 0)), (.v (.int .i64 0)), (.v (.int .i64 0)), (.v (.string ⟨#[]⟩))] [(0, 8, (.tmp 9)), (8, 8, (.tmp 10)), (16, 8, (.tmp 11))])⟩
  (.seq ⟨some 13, none, (.call (.cst (.fn 56 [])) [(.tmp 12)])⟩
  (.seq ⟨some 3, none, (.alloc [(.v (.int .i64 0)), (.v (.int .i64 0)), (.v (.int .i64 0)), (.v (.int .i64 0)), (.v (.int .i64 0)), (.v (.int .i64 0)), (.v (.int .i64 0)), (.v (.int .i64 0)), (.v (.int .i64 0))])⟩
  (.seq ⟨none, none, (.store 9 (.tmp 3) (.tmp 13))⟩
  .done))))))))
 (.seq (.tree (.seq ⟨some 14, none, (.ofA (.faddr 0 (.tmp 1)))⟩
  (.seq ⟨some 15, none, (.ofA (.iarr 16 1 (.tmp 14) (.cst (.v (.int .i64 0)))))⟩
  (.seq ⟨some 16, none, (.ofA (.load none (.tmp 15)))⟩
  (.seq ⟨some 17, none, (.ofA (.bin .eql (.tmp 16) (.cst (.v (.int .i64 1)))))⟩
  (.seq ⟨some 18, none, (.ofA (.mv (.tmp 17)))⟩
  (.seq ⟨some 19, some (18, true), (.ofA (.faddr 0 (.tmp 1)))⟩
  (.seq ⟨some 20, some (18, true), (.ofA (.iarr 16 1 (.tmp 19) (.cst (.v (.int .i64 5)))))⟩
  (.seq ⟨some 21, some (18, true), (.ofA (.load none (.tmp 20)))⟩
  (.seq ⟨some 22, some (18, true), (.ofA (.bin .eql (.tmp 21) (.cst (.v (.int .i64 1)))))⟩
  (.seq ⟨some 23, none, (.ofA (.pick (.tmp 18) (.tmp 22) (.cst (.v (.bool false)))))⟩
  (.seq ⟨some 24, none, (.ofA (.mv (.tmp 23)))⟩
  (.seq ⟨some 25, some (24, true), (.ofA (.faddr 16 (.tmp 1)))⟩
  (.seq ⟨some 26, some (24, true), (.ofA (.load none (.tmp 25)))⟩
  (.seq ⟨some 27, some (24, true), (.ofA (.bin .eql (.tmp 26) (.cst (.v (.int .i64 2)))))⟩
  (.seq ⟨some 28, none, (.ofA (.pick (.tmp 24) (.tmp 27) (.cst (.v (.bool false)))))⟩
  (.seq ⟨some 29, none, (.ofA (.mv (.tmp 28)))⟩
  (.seq ⟨some 30, some (29, true), (.ofA (.faddr 17 (.tmp 1)))⟩
  (.seq ⟨some 31, some (29, true), (.ofA (.load none (.tmp 30)))⟩
  (.seq ⟨some 32, some (29, true), (.ofA (.bin .eql (.tmp 31) (.cst (.v (.int .i64 3)))))⟩
  (.seq ⟨some 33, none, (.ofA (.pick (.tmp 29) (.tmp 32) (.cst (.v (.bool false)))))⟩
  (.seq ⟨some 34, none, (.ofA (.mv (.tmp 33)))⟩
  (.seq ⟨some 35, some (34, true), (.ofA (.faddr 18 (.tmp 1)))⟩
  (.seq ⟨some 36, some (34, true), (.ofA (.load none (.tmp 35)))⟩
  (.seq ⟨some 37, some (34, true), (.ofA (.bin .eql (.tmp 36) (.cst (.v (.int .i64 8)))))⟩
  (.seq ⟨some 38, none, (.ofA (.pick (.tmp 34) (.tmp 37) (.cst (.v (.bool false)))))⟩
  (.seq ⟨some 39, none, (.ofA (.mv (.tmp 38)))⟩
  (.seq ⟨some 40, some (39, true), (.ofA (.faddr 19 (.tmp 1)))⟩
  (.seq ⟨some 41, some (39, true), (.ofA (.load none (.tmp 40)))⟩
  (.seq ⟨some 42, some (39, true), (.ofA (.bin .eql (.tmp 41) (.cst (.v (.int .i64 5)))))⟩
  (.seq ⟨some 43, none, (.ofA (.pick (.tmp 39) (.tmp 42) (.cst (.v (.bool false)))))⟩
  (.seq ⟨some 44, none, (.ofA (.mv (.tmp 43)))⟩
  (.seq ⟨some 45, some (44, true), (.ofA (.faddr 17 (.tmp 2)))⟩
  (.seq ⟨some 46, some (44, true), (.ofA (.load none (.tmp 45)))⟩
  (.seq ⟨some 47, some (44, true), (.ofA (.bin .eql (.tmp 46) (.cst (.v (.int .i64 (-1))))))⟩
  (.seq ⟨some 48, none, (.ofA (.pick (.tmp 44) (.tmp 47) (.cst (.v (.bool false)))))⟩
  (.seq ⟨some 49, none, (.ofA (.mv (.tmp 48)))⟩
  (.seq ⟨some 50, some (49, true), (.ofA (.faddr 18 (.tmp 2)))⟩
  (.seq ⟨some 51, some (49, true), (.ofA (.load none (.tmp 50)))⟩
  (.seq ⟨some 52, some (49, true), (.ofA (.bin .eql (.tmp 51) (.cst (.v (.int .i64 (-1))))))⟩
  (.seq ⟨some 53, none, (.ofA (.pick (.tmp 49) (.tmp 52) (.cst (.v (.bool false)))))⟩
  (.seq ⟨some 54, none, (.ofA (.mv (.tmp 53)))⟩
  (.seq ⟨some 55, some (54, true), (.ofA (.iarr 9 1 (.tmp 3) (.cst (.v (.int .i64 5)))))⟩
  (.seq ⟨some 56, some (54, true), (.ofA (.load none (.tmp 55)))⟩
  (.seq ⟨some 57, some (54, true), (.ofA (.bin .eql (.tmp 56) (.cst (.v (.int .i64 2)))))⟩
  (.seq ⟨some 58, none, (.ofA (.pick (.tmp 54) (.tmp 57) (.cst (.v (.bool false)))))⟩
  (.seq ⟨some 59, none, (.ofA (.mv (.tmp 58)))⟩
  (.seq ⟨some 60, some (59, true), (.ofA (.iarr 9 1 (.tmp 3) (.cst (.v (.int .i64 0)))))⟩
  (.seq ⟨some 61, some (59, true), (.ofA (.load none (.tmp 60)))⟩
  (.seq ⟨some 62, some (59, true), (.ofA (.bin .eql (.tmp 61) (.cst (.v (.int .i64 1)))))⟩
  (.seq ⟨some 63, none, (.ofA (.pick (.tmp 59) (.tmp 62) (.cst (.v (.bool false)))))⟩
  (.seq ⟨some 64, none, (.ofA (.mv (.tmp 63)))⟩
  (.seq ⟨some 65, some (64, true), (.call (.cst (.fn 109 [])) [(.cst (.v (.pointer none)))])⟩
  (.seq ⟨some 66, some (64, true), (.ofA (.bin .eql (.tmp 65) (.cst (.v (.int .i64 (-1))))))⟩
  (.seq ⟨some 67, none, (.ofA (.pick (.tmp 64) (.tmp 66) (.cst (.v (.bool false)))))⟩
  (.seq ⟨some 0, none, (.ofA (.mv (.tmp 67)))⟩
  .done))))))))))))))))))))))))))))))))))))))))))))))))))))))))
 .ret)))))
def r52 : List XR := [.tmp 0]
theorem fn52 : FnX Try.prog 52 [] 68 x52 r52 := ⟨_, Try.func52, by kernel_rfl, by kernel_rfl, by kernel_rfl, by kernel_rfl⟩
-- almshouse/tally.Worst (1 parameters)
def x109 : XC := (.seq (.tree (.seq ⟨some 2, none, (.ofA (.mv (.cst (.v (.int .i64 0)))))⟩
  .done))
 (.seq (.tree (.seq ⟨some 8, none, (.ofA (.mv (.tmp 0)))⟩
  (.seq ⟨some 9, none, (.call (.cst (.fn 156 [])) [(.tmp 8)])⟩
  (.seq ⟨some 3, none, (.alloc [(.v (.int .i64 0)), (.v (.int .i64 0)), (.v (.int .i64 0)), (.v (.int .i64 0)), (.v (.int .i64 0)), (.v (.int .i64 0)), (.v (.int .i64 0)), (.v (.int .i64 0)), (.v (.int .i64 0)), (.v (.int .i64 0)), (.v (.int .i64 0)), (.v (.int .i64 0)), (.v (.int .i64 0)), (.v (.int .i64 0)), (.v (.int .i64 0)), (.v (.int .i64 0)), (.v (.int .i64 0)), (.v (.int .i64 0)), (.v (.int .i64 0)), (.v (.int .i64 0)), (.v (.int .i64 0)), (.v (.int .i64 0)), (.v (.int .i64 0)), (.v (.int .i64 0)), (.v (.int .i64 0)), (.v (.int .i64 0)), (.v (.int .i64 0)), (.v (.int .i64 0)), (.v (.int .i64 0)), (.v (.int .i64 0)), (.v (.int .i64 0)), (.v (.int .i64 0)), (.v (.int .i64 0)), (.v (.int .i64 0)), (.v (.int .i64 0)), (.v (.int .i64 0)), (.v (.int .i64 0)), (.v (.int .i64 0)), (.v (.int .i64 0)), (.v (.int .i64 0)), (.v (.int .i64 0)), (.v (.int .i64 0)), (.v (.int .i64 0)), (.v (.int .i64 0)), (.v (.int .i64 0)), (.v (.int .i64 0)), (.v (.int .i64 0)), (.v (.int .i64 0)), (.v (.int .i64 0)), (.v (.int .i64 0)), (.v (.int .i64 0)), (.v (.int .i64 0)), (.v (.int .i64 0)), (.v (.int .i64 0)), (.v (.int .i64 0)), (.v (.int .i64 0)), (.v (.int .i64 0)), (.v (.int .i64 0)), (.v (.int .i64 0)), (.v (.int .i64 0)), (.v (.int .i64 0)), (.v (.int .i64 0)), (.v (.int .i64 0)), (.v (.int .i64 0)), (.v (.int .i64 0)), (.v (.int .i64 0)), (.v (.int .i64 0)), (.v (.int .i64 0)), (.v (.int .i64 0)), (.v (.int .i64 0)), (.v (.int .i64 0)), (.v (.int .i64 0)), (.v (.int .i64 0)), (.v (.int .i64 0)), (.v (.int .i64 0)), (.v (.int .i64 0)), (.v (.int .i64 0)), (.v (.int .i64 0)), (.v (.int .i64 0)), (.v (.int .i64 0))])⟩
  (.seq ⟨none, none, (.store 80 (.tmp 3) (.tmp 9))⟩
  .done)))))
 (.seq (.tree (.seq ⟨some 4, none, (.ofA (.mv (.cst (.v (.int .i64 (-1))))))⟩
  .done))
 (.seq (.seq (.tree (.seq ⟨some 10, none, (.ofA (.load (some 80) (.tmp 3)))⟩
  (.seq ⟨some 11, none, (.ofA (.mv (.cst (.v (.int .i64 0)))))⟩
  .done)))
 (.block 0 (.loop (.seq (.tree (.seq ⟨some 12, none, (.ofA (.bin .lss (.tmp 11) (.cst (.v (.int .i64 4)))))⟩
  .done))
 (.seq (.cond (.tmp 12)
 .skip
 (.exit 0))
 (.seq (.block 1 (.seq (.tree (.seq ⟨some 13, none, (.ofA (.mv (.tmp 11)))⟩
  (.seq ⟨some 14, none, (.ofA (.idx 4 20 true (.tmp 10) (.tmp 11)))⟩
  (.seq ⟨some 6, none, (.alloc [(.v (.int .i64 0)), (.v (.int .i64 0)), (.v (.int .i64 0)), (.v (.int .i64 0)), (.v (.int .i64 0)), (.v (.int .i64 0)), (.v (.int .i64 0)), (.v (.int .i64 0)), (.v (.int .i64 0)), (.v (.int .i64 0)), (.v (.int .i64 0)), (.v (.int .i64 0)), (.v (.int .i64 0)), (.v (.int .i64 0)), (.v (.int .i64 0)), (.v (.int .i64 0)), (.v (.int .i64 0)), (.v (.int .i64 0)), (.v (.int .i64 0)), (.v (.int .i64 0))])⟩
  (.seq ⟨some 5, none, (.ofA (.mv (.tmp 13)))⟩
  (.seq ⟨none, none, (.store 20 (.tmp 6) (.tmp 14))⟩
  .done))))))
 (.seq (.tree (.seq ⟨some 15, none, (.ofA (.load (some 20) (.tmp 6)))⟩
  (.seq ⟨some 16, none, (.call (.cst (.fn 157 [])) [(.tmp 15)])⟩
  (.seq ⟨some 7, none, (.ofA (.mv (.tmp 16)))⟩
  .done))))
 (.seq (.tree (.seq ⟨some 17, none, (.ofA (.mv (.tmp 7)))⟩
  (.seq ⟨some 18, none, (.ofA (.bin .gtr (.tmp 17) (.cst (.v (.int .i64 0)))))⟩
  (.seq ⟨some 19, none, (.ofA (.mv (.tmp 18)))⟩
  (.seq ⟨some 20, some (19, true), (.ofA (.mv (.tmp 4)))⟩
  (.seq ⟨some 21, some (19, true), (.ofA (.bin .eql (.tmp 20) (.cst (.v (.int .i64 (-1))))))⟩
  (.seq ⟨some 22, some (19, true), (.ofA (.mv (.tmp 21)))⟩
  (.seq ⟨some 23, some (22, false), (.ofA (.mv (.tmp 7)))⟩
  (.seq ⟨some 24, some (22, false), (.ofA (.mv (.tmp 4)))⟩
  (.seq ⟨some 25, some (22, false), (.ofA (.iarr 4 20 (.tmp 3) (.tmp 24)))⟩
  (.seq ⟨some 26, some (22, false), (.ofA (.load (some 20) (.tmp 25)))⟩
  (.seq ⟨some 27, some (22, false), (.call (.cst (.fn 157 [])) [(.tmp 26)])⟩
  (.seq ⟨some 28, some (22, false), (.ofA (.bin .gtr (.tmp 23) (.tmp 27)))⟩
  (.seq ⟨some 29, some (19, true), (.ofA (.pick (.tmp 22) (.cst (.v (.bool true))) (.tmp 28)))⟩
  (.seq ⟨some 30, none, (.ofA (.pick (.tmp 19) (.tmp 29) (.cst (.v (.bool false)))))⟩
  .done)))))))))))))))
 (.cond (.tmp 30)
 (.tree (.seq ⟨some 31, none, (.ofA (.mv (.tmp 5)))⟩
  (.seq ⟨some 4, none, (.ofA (.mv (.tmp 31)))⟩
  .done)))
 .skip)))))
 (.tree (.seq ⟨some 32, none, (.ofA (.bin .add (.tmp 11) (.cst (.v (.int .i64 1)))))⟩
  (.seq ⟨some 11, none, (.ofA (.mv (.tmp 32)))⟩
  .done)))))))))
 (.seq (.tree (.seq ⟨some 33, none, (.ofA (.mv (.tmp 4)))⟩
  (.seq ⟨some 2, none, (.ofA (.mv (.tmp 33)))⟩
  .done)))
 .ret)))))
def r109 : List XR := [.tmp 2]
theorem fn109 : FnX Try.prog 109 [] 34 x109 r109 := ⟨_, Try.func109, by kernel_rfl, by kernel_rfl, by kernel_rfl, by kernel_rfl⟩
-- almshouse/tally.House (1 parameters)
def x156 : XC := (.seq (.tree (.seq ⟨some 2, none, (.alloc [(.v (.int .i64 0)), (.v (.int .i64 0)), (.v (.int .i64 0)), (.v (.int .i64 0)), (.v (.int .i64 0)), (.v (.int .i64 0)), (.v (.int .i64 0)), (.v (.int .i64 0)), (.v (.int .i64 0)), (.v (.int .i64 0)), (.v (.int .i64 0)), (.v (.int .i64 0)), (.v (.int .i64 0)), (.v (.int .i64 0)), (.v (.int .i64 0)), (.v (.int .i64 0)), (.v (.int .i64 0)), (.v (.int .i64 0)), (.v (.int .i64 0)), (.v (.int .i64 0)), (.v (.int .i64 0)), (.v (.int .i64 0)), (.v (.int .i64 0)), (.v (.int .i64 0)), (.v (.int .i64 0)), (.v (.int .i64 0)), (.v (.int .i64 0)), (.v (.int .i64 0)), (.v (.int .i64 0)), (.v (.int .i64 0)), (.v (.int .i64 0)), (.v (.int .i64 0)), (.v (.int .i64 0)), (.v (.int .i64 0)), (.v (.int .i64 0)), (.v (.int .i64 0)), (.v (.int .i64 0)), (.v (.int .i64 0)), (.v (.int .i64 0)), (.v (.int .i64 0)), (.v (.int .i64 0)), (.v (.int .i64 0)), (.v (.int .i64 0)), (.v (.int .i64 0)), (.v (.int .i64 0)), (.v (.int .i64 0)), (.v (.int .i64 0)), (.v (.int .i64 0)), (.v (.int .i64 0)), (.v (.int .i64 0)), (.v (.int .i64 0)), (.v (.int .i64 0)), (.v (.int .i64 0)), (.v (.int .i64 0)), (.v (.int .i64 0)), (.v (.int .i64 0)), (.v (.int .i64 0)), (.v (.int .i64 0)), (.v (.int .i64 0)), (.v (.int .i64 0)), (.v (.int .i64 0)), (.v (.int .i64 0)), (.v (.int .i64 0)), (.v (.int .i64 0)), (.v (.int .i64 0)), (.v (.int .i64 0)), (.v (.int .i64 0)), (.v (.int .i64 0)), (.v (.int .i64 0)), (.v (.int .i64 0)), (.v (.int .i64 0)), (.v (.int .i64 0)), (.v (.int .i64 0)), (.v (.int .i64 0)), (.v (.int .i64 0)), (.v (.int .i64 0)), (.v (.int .i64 0)), (.v (.int .i64 0)), (.v (.int .i64 0)), (.v (.int .i64 0))])⟩
  .done))
 (.seq (.tree (.seq ⟨some 3, none, (.alloc [(.v (.int .i64 0)), (.v (.int .i64 0)), (.v (.int .i64 0)), (.v (.int .i64 0)), (.v (.int .i64 0)), (.v (.int .i64 0)), (.v (.int .i64 0)), (.v (.int .i64 0)), (.v (.int .i64 0)), (.v (.int .i64 0)), (.v (.int .i64 0)), (.v (.int .i64 0)), (.v (.int .i64 0)), (.v (.int .i64 0)), (.v (.int .i64 0)), (.v (.int .i64 0)), (.v (.int .i64 0)), (.v (.int .i64 0)), (.v (.int .i64 0)), (.v (.int .i64 0)), (.v (.int .i64 0)), (.v (.int .i64 0)), (.v (.int .i64 0)), (.v (.int .i64 0)), (.v (.int .i64 0)), (.v (.int .i64 0)), (.v (.int .i64 0)), (.v (.int .i64 0)), (.v (.int .i64 0)), (.v (.int .i64 0)), (.v (.int .i64 0)), (.v (.int .i64 0)), (.v (.int .i64 0)), (.v (.int .i64 0)), (.v (.int .i64 0)), (.v (.int .i64 0)), (.v (.int .i64 0)), (.v (.int .i64 0)), (.v (.int .i64 0)), (.v (.int .i64 0)), (.v (.int .i64 0)), (.v (.int .i64 0)), (.v (.int .i64 0)), (.v (.int .i64 0)), (.v (.int .i64 0)), (.v (.int .i64 0)), (.v (.int .i64 0)), (.v (.int .i64 0)), (.v (.int .i64 0)), (.v (.int .i64 0)), (.v (.int .i64 0)), (.v (.int .i64 0)), (.v (.int .i64 0)), (.v (.int .i64 0)), (.v (.int .i64 0)), (.v (.int .i64 0)), (.v (.int .i64 0)), (.v (.int .i64 0)), (.v (.int .i64 0)), (.v (.int .i64 0)), (.v (.int .i64 0)), (.v (.int .i64 0)), (.v (.int .i64 0)), (.v (.int .i64 0)), (.v (.int .i64 0)), (.v (.int .i64 0)), (.v (.int .i64 0)), (.v (.int .i64 0)), (.v (.int .i64 0)), (.v (.int .i64 0)), (.v (.int .i64 0)), (.v (.int .i64 0)), (.v (.int .i64 0)), (.v (.int .i64 0)), (.v (.int .i64 0)), (.v (.int .i64 0)), (.v (.int .i64 0)), (.v (.int .i64 0)), (.v (.int .i64 0)), (.v (.int .i64 0))])⟩
  .done))
 (.seq (.seq (.tree (.seq ⟨some 5, none, (.ofA (.mv (.cst (.v (.int .i64 0)))))⟩
  .done))
 (.block 0 (.loop (.seq (.tree (.seq ⟨some 6, none, (.ofA (.bin .lss (.tmp 5) (.cst (.v (.int .i64 4)))))⟩
  .done))
 (.seq (.cond (.tmp 6)
 .skip
 (.exit 0))
 (.seq (.block 1 (.seq (.tree (.seq ⟨some 7, none, (.ofA (.mv (.tmp 5)))⟩
  (.seq ⟨some 4, none, (.ofA (.mv (.tmp 7)))⟩
  .done)))
 (.tree (.seq ⟨some 8, none, (.ofA (.mv (.tmp 4)))⟩
  (.seq ⟨some 9, none, (.ofA (.mv (.tmp 0)))⟩
  (.seq ⟨some 10, none, (.ofA (.mv (.tmp 4)))⟩
  (.seq ⟨some 11, none, (.call (.cst (.fn 202 [])) [(.tmp 9), (.tmp 10)])⟩
  (.seq ⟨some 12, none, (.call (.cst (.fn 54 [])) [(.tmp 11)])⟩
  (.seq ⟨some 13, none, (.ofA (.iarr 4 20 (.tmp 3) (.tmp 8)))⟩
  (.seq ⟨none, none, (.store 20 (.tmp 13) (.tmp 12))⟩
  .done))))))))))
 (.tree (.seq ⟨some 14, none, (.ofA (.bin .add (.tmp 5) (.cst (.v (.int .i64 1)))))⟩
  (.seq ⟨some 5, none, (.ofA (.mv (.tmp 14)))⟩
  .done)))))))))
 (.seq (.tree (.seq ⟨some 15, none, (.ofA (.load (some 80) (.tmp 3)))⟩
  (.seq ⟨none, none, (.store 80 (.tmp 2) (.tmp 15))⟩
  .done)))
 .ret))))
def r156 : List XR := [.cell 2 (some 80)]
theorem fn156 : FnX Try.prog 156 [] 16 x156 r156 := ⟨_, Try.func156, by kernel_rfl, by kernel_rfl, by kernel_rfl, by kernel_rfl⟩
-- (almshouse/tally.Tally).wrong (1 parameters)
def x157 : XC := (.seq (.tree (.seq ⟨some 1, none, (.box (.tmp 0))⟩
  (.seq ⟨some 2, none, (.ofA (.mv (.cst (.v (.int .i64 0)))))⟩
  .done)))
 (.seq (.tree (.seq ⟨some 3, none, (.ofA (.mv (.cst (.v (.int .i64 0)))))⟩
  .done))
 (.seq (.seq (.tree (.seq ⟨some 6, none, (.ofA (.faddr 0 (.tmp 1)))⟩
  (.seq ⟨some 7, none, (.ofA (.slca 16 1 (.tmp 6) (some (.cst (.v (.int .i64 1)))) none))⟩
  (.seq ⟨some 8, none, (.ofA (.len (.tmp 7)))⟩
  (.seq ⟨some 9, none, (.ofA (.mv (.cst (.v (.int .i64 0)))))⟩
  .done)))))
 (.block 0 (.loop (.seq (.tree (.seq ⟨some 10, none, (.ofA (.bin .lss (.tmp 9) (.tmp 8)))⟩
  .done))
 (.seq (.cond (.tmp 10)
 .skip
 (.exit 0))
 (.seq (.block 1 (.seq (.tree (.seq ⟨some 11, none, (.ofA (.isl 1 (.tmp 7) (.tmp 9)))⟩
  (.seq ⟨some 12, none, (.ofA (.load none (.tmp 11)))⟩
  (.seq ⟨some 5, none, (.ofA (.mv (.tmp 12)))⟩
  .done))))
 (.tree (.seq ⟨some 13, none, (.ofA (.mv (.tmp 3)))⟩
  (.seq ⟨some 14, none, (.ofA (.mv (.tmp 5)))⟩
  (.seq ⟨some 15, none, (.ofA (.bin .add (.tmp 13) (.tmp 14)))⟩
  (.seq ⟨some 3, none, (.ofA (.mv (.tmp 15)))⟩
  .done)))))))
 (.tree (.seq ⟨some 16, none, (.ofA (.bin .add (.tmp 9) (.cst (.v (.int .i64 1)))))⟩
  (.seq ⟨some 9, none, (.ofA (.mv (.tmp 16)))⟩
  .done)))))))))
 (.seq (.tree (.seq ⟨some 17, none, (.ofA (.mv (.tmp 3)))⟩
  (.seq ⟨some 2, none, (.ofA (.mv (.tmp 17)))⟩
  .done)))
 .ret))))
def r157 : List XR := [.tmp 2]
theorem fn157 : FnX Try.prog 157 [] 18 x157 r157 := ⟨_, Try.func157, by kernel_rfl, by kernel_rfl, by kernel_rfl, by kernel_rfl⟩
-- (*almshouse/house.House).Done (2 parameters)
def x202 : XC := (.seq (.tree (.seq ⟨some 4, none, (.ofA (.mv (.cst (.v (.slice none 0 0)))))⟩
  .done))
 (.seq (.seq (.tree (.seq ⟨some 5, none, (.ofA (.mv (.tmp 0)))⟩
  (.seq ⟨some 6, none, (.ofA (.eqn false 1 (.tmp 5) (.cst (.v (.pointer none)))))⟩
  (.seq ⟨some 7, none, (.ofA (.mv (.tmp 6)))⟩
  (.seq ⟨some 8, some (7, false), (.ofA (.mv (.tmp 1)))⟩
  (.seq ⟨some 9, some (7, false), (.ofA (.bin .lss (.tmp 8) (.cst (.v (.int .i64 0)))))⟩
  (.seq ⟨some 10, none, (.ofA (.pick (.tmp 7) (.cst (.v (.bool true))) (.tmp 9)))⟩
  (.seq ⟨some 11, none, (.ofA (.mv (.tmp 10)))⟩
  (.seq ⟨some 12, some (11, false), (.ofA (.mv (.tmp 1)))⟩
  (.seq ⟨some 13, some (11, false), (.ofA (.bin .geq (.tmp 12) (.cst (.v (.int .i64 4)))))⟩
  (.seq ⟨some 14, none, (.ofA (.pick (.tmp 11) (.cst (.v (.bool true))) (.tmp 13)))⟩
  .done)))))))))))
 (.cond (.tmp 14)
 (.seq (.tree (.seq ⟨some 4, none, (.ofA (.mv (.cst (.v (.slice none 0 0)))))⟩
  .done))
 .ret)
 .skip))
 (.seq (.tree (.seq ⟨some 15, none, (.ofA (.mv (.tmp 0)))⟩
  (.seq ⟨some 16, none, (.ofA (.mv (.tmp 1)))⟩
  (.seq ⟨some 17, none, (.ofA (.nilc (.tmp 15)))⟩
  (.seq ⟨some 18, none, (.ofA (.faddr 25 (.tmp 17)))⟩
  (.seq ⟨some 19, none, (.ofA (.iarr 4 2 (.tmp 18) (.tmp 16)))⟩
  (.seq ⟨some 20, none, (.ofA (.faddr 1 (.tmp 19)))⟩
  (.seq ⟨some 21, none, (.ofA (.load none (.tmp 20)))⟩
  (.seq ⟨some 22, none, (.call (.cst (.fn 222 [])) [(.tmp 21)])⟩
  (.seq ⟨some 4, none, (.ofA (.mv (.tmp 22)))⟩
  .done))))))))))
 .ret)))
def r202 : List XR := [.tmp 4]
theorem fn202 : FnX Try.prog 202 [] 23 x202 r202 := ⟨_, Try.func202, by kernel_rfl, by kernel_rfl, by kernel_rfl, by kernel_rfl⟩
-- almshouse/almshouselaw46.TallyParts (2 parameters)
def x11 : XC := (.seq (.tree (.seq ⟨some 4, none, (.ofA (.mv (.cst (.v (.bool false)))))⟩
  .done))
 (.seq (.seq (.tree (.seq ⟨some 7, none, (.call (.cst (.fn 52 [])) [])⟩
  (.seq ⟨some 8, none, (.ofA (.un .not (.tmp 7)))⟩
  .done)))
 (.cond (.tmp 8)
 (.seq (.tree (.seq ⟨some 4, none, (.ofA (.mv (.cst (.v (.bool false)))))⟩
  .done))
 .ret)
 .skip))
 (.seq (.seq (.tree (.seq ⟨some 9, none, (.ofA (.mv (.tmp 0)))⟩
  (.seq ⟨some 10, none, (.call (.cst (.fn 53 [])) [(.tmp 9)])⟩
  (.seq ⟨some 11, none, (.ofA (.un .not (.tmp 10)))⟩
  .done))))
 (.cond (.tmp 11)
 (.seq (.tree (.seq ⟨some 4, none, (.ofA (.mv (.cst (.v (.bool true)))))⟩
  .done))
 .ret)
 .skip))
 (.seq (.tree (.seq ⟨some 12, none, (.ofA (.mv (.tmp 1)))⟩
  (.seq ⟨some 13, none, (.ofA (.conv .i64 (.tmp 12)))⟩
  (.seq ⟨some 14, none, (.ofA (.mv (.tmp 0)))⟩
  (.seq ⟨some 15, none, (.ofA (.len (.tmp 14)))⟩
  (.seq ⟨some 16, none, (.ofA (.bin .add (.tmp 15) (.cst (.v (.int .i64 1)))))⟩
  (.seq ⟨some 17, none, (.ofA (.bin .rem (.tmp 13) (.tmp 16)))⟩
  (.seq ⟨some 5, none, (.ofA (.mv (.tmp 17)))⟩
  .done))))))))
 (.seq (.tree (.seq ⟨some 18, none, (.call (.cst (.fn 54 [])) [(.cst (.v (.slice none 0 0)))])⟩
  (.seq ⟨some 6, none, (.alloc [(.v (.int .i64 0)), (.v (.int .i64 0)), (.v (.int .i64 0)), (.v (.int .i64 0)), (.v (.int .i64 0)), (.v (.int .i64 0)), (.v (.int .i64 0)), (.v (.int .i64 0)), (.v (.int .i64 0)), (.v (.int .i64 0)), (.v (.int .i64 0)), (.v (.int .i64 0)), (.v (.int .i64 0)), (.v (.int .i64 0)), (.v (.int .i64 0)), (.v (.int .i64 0)), (.v (.int .i64 0)), (.v (.int .i64 0)), (.v (.int .i64 0)), (.v (.int .i64 0))])⟩
  (.seq ⟨none, none, (.store 20 (.tmp 6) (.tmp 18))⟩
  .done))))
 (.seq (.tree (.take ⟨some 19, none, (.ofA (.mv (.tmp 0)))⟩
  (.take ⟨some 20, none, (.ofA (.mv (.tmp 5)))⟩
  (.take ⟨some 21, none, (.ofA (.slc 3 (.tmp 19) none (some (.tmp 20))))⟩
  (.take ⟨some 23, none, (.ofA (.mv (.tmp 0)))⟩
  (.take ⟨some 24, none, (.ofA (.mv (.tmp 5)))⟩
  (.take ⟨some 25, none, (.ofA (.slc 3 (.tmp 23) (some (.tmp 24)) none))⟩
  (.take ⟨some 28, none, (.ofA (.mv (.tmp 0)))⟩
  (.act true [(⟨some 22, none, (.call (.cst (.fn 54 [])) [(.tmp 21)])⟩,
 (.act true [(⟨some 26, none, (.call (.cst (.fn 54 [])) [(.tmp 25)])⟩,
 (.act true [(⟨some 27, none, (.call (.cst (.fn 59 [])) [(.tmp 22), (.tmp 26)])⟩,
 (.act true [(⟨some 29, none, (.call (.cst (.fn 54 [])) [(.tmp 28)])⟩,
 (.take ⟨some 30, none, (.ofA (.eqs false [.int, .int, .int, .int, .int, .int, .int, .int, .int, .int, .int, .int, .int, .int, .int, .int, .int, .int, .int, .int] (.tmp 27) (.tmp 29)))⟩
  (.take ⟨some 31, none, (.ofA (.mv (.tmp 30)))⟩
  (.take ⟨some 32, some (31, true), (.ofA (.load (some 20) (.tmp 6)))⟩
  (.take ⟨some 33, some (31, true), (.ofA (.mv (.tmp 0)))⟩
  (.take ⟨some 36, some (31, true), (.ofA (.mv (.tmp 0)))⟩
  (.act true [(⟨some 34, some (31, true), (.call (.cst (.fn 54 [])) [(.tmp 33)])⟩,
 (.act true [(⟨some 35, some (31, true), (.call (.cst (.fn 59 [])) [(.tmp 32), (.tmp 34)])⟩,
 (.act true [(⟨some 37, some (31, true), (.call (.cst (.fn 54 [])) [(.tmp 36)])⟩,
 (.take ⟨some 38, some (31, true), (.ofA (.eqs false [.int, .int, .int, .int, .int, .int, .int, .int, .int, .int, .int, .int, .int, .int, .int, .int, .int, .int, .int, .int] (.tmp 35) (.tmp 37)))⟩
  (.take ⟨some 39, none, (.ofA (.pick (.tmp 31) (.tmp 38) (.cst (.v (.bool false)))))⟩
  (.take ⟨some 40, none, (.ofA (.mv (.tmp 39)))⟩
  (.take ⟨some 41, some (40, true), (.ofA (.mv (.tmp 0)))⟩
  (.take ⟨some 43, some (40, true), (.ofA (.load (some 20) (.tmp 6)))⟩
  (.take ⟨some 45, some (40, true), (.ofA (.mv (.tmp 0)))⟩
  (.act true [(⟨some 42, some (40, true), (.call (.cst (.fn 54 [])) [(.tmp 41)])⟩,
 (.act true [(⟨some 44, some (40, true), (.call (.cst (.fn 59 [])) [(.tmp 42), (.tmp 43)])⟩,
 (.act true [(⟨some 46, some (40, true), (.call (.cst (.fn 54 [])) [(.tmp 45)])⟩,
 (.take ⟨some 47, some (40, true), (.ofA (.eqs false [.int, .int, .int, .int, .int, .int, .int, .int, .int, .int, .int, .int, .int, .int, .int, .int, .int, .int, .int, .int] (.tmp 44) (.tmp 46)))⟩
  (.take ⟨some 48, none, (.ofA (.pick (.tmp 40) (.tmp 47) (.cst (.v (.bool false)))))⟩
  (.take ⟨some 4, none, (.ofA (.mv (.tmp 48)))⟩
  .done))))]))]))]))))))))]))]))])))))))]))]))]))])))))))))
 .ret))))))
def r11 : List XR := [.tmp 4]
theorem fn11 : FnX Try.prog 11 [] 49 x11 r11 := ⟨_, Try.func11, by kernel_rfl, by kernel_rfl, by kernel_rfl, by kernel_rfl⟩

def T52 : List RE := [.run 52 true ⟨x52, 68, r52, 7⟩, .run 54 true ⟨x54, 19, r54, 5⟩, .run 59 true ⟨x59, 61, r59, 6⟩, .run 110 true ⟨x110, 29, r110, 5⟩, .run 56 true ⟨x56, 28, r56, 5⟩, .run 109 true ⟨x109, 34, r109, 6⟩, .run 156 true ⟨x156, 16, r156, 5⟩, .run 157 true ⟨x157, 18, r157, 5⟩, .run 202 true ⟨x202, 23, r202, 5⟩]
theorem T52_ok : TOk Try.prog EFF T52 := (TOk.run fn52 (TOk.run fn54 (TOk.run fn59 (TOk.run fn110 (TOk.run fn56 (TOk.run fn109 (TOk.run fn156 (TOk.run fn157 (TOk.run fn202 TOk.nil)))))))))

theorem run52 : runsTo T52 1000 50 52 [] (.v (.bool true)) = true := by kernel_rfl
def c52 [Inp] : Trans := fun args m k => match args with
  | [] => k (.v (.bool true)) m
  | _ => False
theorem c52_ok [Inp] : Contract Try.prog 52 true c52 := Contract.runs T52_ok 1000 50 run52 _ fun a m k h => by
  unfold c52 at h
  split at h
  · exact ⟨rfl, h⟩
  · exact h.elim
theorem rdD_v [Inp] {m : Mem} {p : Option Addr} {n c : Nat} {ds : List Dn} (h : inpL p (n * 3) = some (rowV Dn.cs ds)) : rdD m (.v (.slice p n c)) = some ds := by
  unfold rdD
  simp only [slOf, h, Option.map_some, Option.bind_some, decD_row]
theorem rowD_take (ds : List Dn) (k : Nat) : (rowV Dn.cs ds).take (k * 3) = rowV Dn.cs (ds.take k) := by
  induction k generalizing ds with
  | zero => simp [rowV]
  | succ k ih =>
    cases ds with
    | nil => simp [rowV]
    | cons d ds =>
      have e : rowV Dn.cs (d :: ds) = d.cs ++ rowV Dn.cs ds := rfl
      have e2 : rowV Dn.cs ((d :: ds).take (k + 1)) = d.cs ++ rowV Dn.cs (ds.take k) := rfl
      rw [e, e2, List.take_append, List.take_of_length_le (by rw [Dn.len]; omega), Dn.len, show (k + 1) * 3 - 3 = k * 3 by omega, ih]
theorem rowD_drop (ds : List Dn) (k : Nat) : (rowV Dn.cs ds).drop (k * 3) = rowV Dn.cs (ds.drop k) := by
  induction k generalizing ds with
  | zero => simp
  | succ k ih =>
    cases ds with
    | nil => simp [rowV]
    | cons d ds =>
      have e : rowV Dn.cs (d :: ds) = d.cs ++ rowV Dn.cs ds := rfl
      rw [e, List.drop_append, List.drop_of_length_le (by rw [Dn.len]; omega), Dn.len, show (k + 1) * 3 - 3 = k * 3 by omega, ih]
      rfl
def G11 (J : Inp) : List CEntry := [⟨52, true, @c52 J⟩, ⟨53, true, @c53 J⟩, ⟨54, true, @c54 J⟩, ⟨59, true, @c59 J⟩]
theorem g11 (J : Inp) : @GOk J Try.prog (G11 J) := @GOk.cons J _ _ _ _ _ (@c52_ok J) (@GOk.cons J _ _ _ _ _ (@c53_ok J) (@GOk.cons J _ _ _ _ _ (@c54_ok J) (@GOk.cons J _ _ _ _ _ (@c59_ok J) (@g0 J _))))
def c11 [Inp] : Trans := fun args m k => match args with
  | [.v (.slice p n c), .v (.int .u8 at_)] => optK (rdD m (.v (.slice p n c))) fun ds => (n ≤ c ∧ ds.length ≤ 9223372036854775807 ∧ 0 ≤ at_ ∧ at_ ≤ 255) ∧ k (.v (.bool true)) m
  | _ => False
theorem c11_ok [Inp] : Contract Try.prog 11 true c11 := by
  refine .read fn11 (G := G11) g11 _ fun args m k h => ?_
  unfold c11 at h
  split at h
  · rename_i p0 n0 c0 at_
    obtain ⟨ds, hds, ⟨hc, hb, ha0, ha1⟩, hk⟩ := optK_inv h
    refine ⟨by simp, fun J hJ us hus => ?_⟩
    obtain ⟨u, t, rfl, hkn, u2, t2, rfl, hkn2, rfl⟩ := hus
    obtain ⟨p, c, hu, hin, _⟩ := rdD_knows hds hkn
    obtain rfl := hkn.1 _ rfl
    obtain rfl := hkn2.1 _ rfl
    injection hu with e1 e2 e3
    subst e1 e3
    subst e2
    -- where it is cut
    obtain ⟨j, hj⟩ : ∃ j : Nat, j = at_.toNat % (ds.length + 1) := ⟨_, rfl⟩
    have hjl : j ≤ ds.length := by rw [hj]; exact Nat.le_of_lt_succ (Nat.mod_lt _ (by omega))
    have w0 : IntKind.i64.wrap at_ = at_ := wrap_id (by omega) (by omega)
    have w2 : at_.tmod ((ds.length : Int) + 1) = (j : Int) := by
      rw [Int.tmod_eq_emod_of_nonneg ha0, hj]
      have : at_ = ((at_.toNat : Nat) : Int) := by omega
      rw [this]
      simp
    have w3 : ((ds.length : Int) + 1 = 0) = False := by simp; omega
    have b0 : (0 : Int) ≤ (j : Int) := by omega
    have b2 : j ≤ c0 := by omega
    have r0 : ∀ m : Mem, rdD m (.v (.slice none 0 0)) = some [] := fun m => by unfold rdD; simp [slOf, inpL, decD]
    have r1 : ∀ m : Mem, rdD m (.v (.slice p0 ds.length c0)) = some ds := fun m => rdD_v hin
    have r2 : ∀ m : Mem, rdD m (.v (.slice (cutA p0 0 c0 3) j c0)) = some (ds.take j) := fun m => by
      refine rdD_v ?_
      have := inpL_cut (l := 0) (h := j) hin (Nat.zero_le _) hjl hc
      simpa [rowD_take] using this
    have r3 : ∀ m : Mem, rdD m (.v (.slice (cutA p0 j c0 3) (ds.length - j) (c0 - j))) = some (ds.drop j) := fun m => by
      refine rdD_v ?_
      have := inpL_cut (l := j) (h := ds.length) hin hjl (Nat.le_refl _) hc
      rw [rowD_drop] at this
      rw [this]
      congr 1
      apply List.take_of_length_le
      rw [rowV_len Dn.len]
      simp
    have t1 : (ds.take j).length ≤ 9223372036854775807 := by simp; omega
    have t2 : (ds.drop j).length ≤ 9223372036854775807 := by simp; omega
    have t3 : ([] : List Dn).length ≤ 9223372036854775807 := by simp
    have o0 : ofF [] = noneT := rfl
    have a1 : addF (ofF (ds.take j)) (ofF (ds.drop j)) = ofF ds := by rw [← of_app, List.take_append_drop]
    have a2 : addF noneT (ofF ds) = ofF ds := none_add (good_of ds)
    have a3 : addF (ofF ds) noneT = ofF ds := add_none (good_of ds)
    have l1 := ofF_len ds
    have l2 := ofF_len (ds.take j)
    have l3 := ofF_len (ds.drop j)
    have l4 : noneT.length = 20 := by decide
    have tk := take_all l4
    have cs := fun (xs ys : List Int) (K : Bool → Prop) (h : xs.length = 20) (h2 : ys.length = 20) => @evCs_iL 20 xs ys K h h2
    simp only [List.replicate_succ, List.replicate_zero] at cs
    by_cases hm : mayL ds = true
    · have h200 : ds.length ≤ 200 := by
        have := hm
        unfold mayL at this
        simp only [Bool.and_eq_true, decide_eq_true_eq] at this
        omega
      have w1 : IntKind.i64.wrap ((ds.length : Int) + 1) = (ds.length : Int) + 1 := wrap_id (by omega) (by omega)
      simp (maxSteps := 2000000) -implicitDefEqProofs only [↓x11, ↓r11, ↓G11, ↓c52, ↓c53, ↓c54, ↓c59, decI_iL, optK_some, Sz.iL_fold, Sz.iL_over, Sz.iL_all, Sz.iL_get, Sz.iL_len, Sz.iL_take, Sz.iL_drop, Sz.iL_one, Sz.iL_plain, Sz.iL_le, List.length_set, hm, w0, w1, w2, w3, b0, b2, hjl, hc, r0, r1, r2, r3, t1, t2, t3, hb, o0, a1, a2, a3, l1, l2, l3, l4, tk, cs, Nat.sub_zero, Nat.zero_le, beq_self_eq_true, not_false_eq_true, ne_eq, ↓Sz.s_loopi, ↓Sz.v_pq, ↓Sz.PRE, Sz.POST, Sz.of_int, Sz.of_bool, Sz.of_str, Sz.of_sl, Sz.of_p, Sz.of_agg, Int.cast_ofNat_Int, Nat.mul_one, Nat.reduceDiv, Nat.reduceMod, Int.reduceLT, Int.reduceLE, Int.reduceToNat, Int.reduceAdd, decide_true, decide_false, ↓reduceIte, List.map_cons, List.map_nil, List.length_cons, List.length_nil, List.cons_append, List.nil_append, List.getElem?_cons_zero, List.getElem?_cons_succ, List.getElem?_nil, List.take_succ_cons, List.take_zero, List.drop_succ_cons, List.drop_zero, List.all_cons, List.all_nil, List.set_cons_zero, List.set_cons_succ, List.append_nil, Option.map_some, Option.map_none, cond_true, cond_false, Bool.true_eq_false, Bool.false_eq_true, Bool.not_true, Bool.not_false, Nat.reduceEqDiff, Nat.reduceAdd, Nat.reduceMul, Nat.reduceSub, Nat.reduceLeDiff, Nat.reduceLT, true_and, and_true, reduceCtorEq, Nat.zero_add, Nat.add_zero, Nat.zero_mul, Nat.le_refl, Int.toNat_natCast, Bool.and_self, Bool.true_and, Bool.and_true, if_true, eq_self, forall_const, and_self, implies_true]
      exact hk
    · have hm : mayL ds = false := by simpa using hm
      simp (maxSteps := 2000000) -implicitDefEqProofs only [↓x11, ↓r11, ↓G11, ↓c52, ↓c53, ↓c54, ↓c59, decI_iL, optK_some, hm, r1, hb, ↓Sz.s_loopi, ↓Sz.v_pq, ↓Sz.PRE, Sz.POST, Sz.of_int, Sz.of_bool, Sz.of_str, Sz.of_sl, Sz.of_p, Sz.of_agg, Int.cast_ofNat_Int, Nat.mul_one, Nat.reduceDiv, Nat.reduceMod, Int.reduceLT, Int.reduceLE, Int.reduceToNat, Int.reduceAdd, decide_true, decide_false, ↓reduceIte, List.map_cons, List.map_nil, List.length_cons, List.length_nil, List.cons_append, List.nil_append, List.getElem?_cons_zero, List.getElem?_cons_succ, List.getElem?_nil, List.take_succ_cons, List.take_zero, List.drop_succ_cons, List.drop_zero, List.all_cons, List.all_nil, List.set_cons_zero, List.set_cons_succ, List.append_nil, Option.map_some, Option.map_none, cond_true, cond_false, Bool.true_eq_false, Bool.false_eq_true, Bool.not_true, Bool.not_false, Nat.reduceEqDiff, Nat.reduceAdd, Nat.reduceMul, Nat.reduceSub, Nat.reduceLeDiff, Nat.reduceLT, true_and, and_true, reduceCtorEq, Nat.zero_add, Nat.add_zero, Nat.zero_mul, Nat.le_refl, Int.toNat_natCast, Bool.and_self, Bool.true_and, Bool.and_true, if_true, eq_self, forall_const, and_self, implies_true]
      exact hk
  · exact h.elim
end Go.Proofs.Ytppndeoiifkkkaa
