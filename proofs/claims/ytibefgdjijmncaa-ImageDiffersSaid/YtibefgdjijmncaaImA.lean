/- Layer 43 (image): the law's own pictures, reckoned by the kernel. No condition. -/
import Derived.Test.YtibefgdjijmncaaOnE
import Derived.Test.YtibefgdjijmncaaSzP
namespace Go.Proofs.Ytibefgdjijmncaa.Run
open Go.RowKit Sz
set_option linter.unusedVariables false
set_option linter.unusedSimpArgs false
set_option maxHeartbeats 4000000
set_option maxRecDepth 20000
abbrev EFF : List FuncId := [47, 50, 51, 52, 54, 56, 95, 97, 98, 99, 100, 101, 125, 126, 180]
theorem h164 : ∀ I : Inp, @Callable I Try.prog 164 true (natTr (nLoad .u32)) := fun I => load_nat e164
theorem h180 : ∀ I : Inp, @Callable I Try.prog 180 false (natTr nStore) := fun I => store_nat e180
theorem fn123e : FnX Try.prog 123 EFF 5 x123 r123 := ⟨_, Try.func123, by kernel_rfl, by kernel_rfl, by kernel_rfl, by kernel_rfl⟩
-- almshouse/almshouselaw43.fixed (0 parameters)
def x11 : XC := (.seq (.tree (.seq ⟨some 0, none, (.ofA (.mv (.cst (.v (.bool false)))))⟩
  .done))
 (.seq (.tree (.seq ⟨some 10, none, (.call (.cst (.fn 43 [])) [])⟩
  (.seq ⟨some 11, none, (.call (.cst (.fn 13 [])) [(.tmp 10)])⟩
  (.seq ⟨some 9, none, (.ofA (.mv (.tmp 11)))⟩
  (.seq ⟨some 12, none, (.ofA (.extract 0 (.tmp 9)))⟩
  (.seq ⟨some 13, none, (.ofA (.extract 1 (.tmp 9)))⟩
  (.seq ⟨some 1, none, (.ofA (.mv (.tmp 12)))⟩
  (.seq ⟨some 2, none, (.ofA (.mv (.tmp 13)))⟩
  .done))))))))
 (.seq (.tree (.seq ⟨some 15, none, (.ofA (.mv (.tmp 1)))⟩
  (.seq ⟨some 16, none, (.call (.cst (.fn 15 [])) [(.tmp 15)])⟩
  (.seq ⟨some 14, none, (.ofA (.mv (.tmp 16)))⟩
  (.seq ⟨some 17, none, (.ofA (.extract 0 (.tmp 14)))⟩
  (.seq ⟨some 18, none, (.ofA (.extract 1 (.tmp 14)))⟩
  (.seq ⟨some 3, none, (.alloc [(.v (.int .i64 0)), (.v (.int .i64 0)), (.v (.int .i64 0)), (.v (.int .i64 0)), (.v (.slice none 0 0))])⟩
  (.seq ⟨none, none, (.store 5 (.tmp 3) (.tmp 17))⟩
  (.seq ⟨some 4, none, (.ofA (.mv (.tmp 18)))⟩
  .done)))))))))
 (.seq (.tree (.seq ⟨some 20, none, (.build [(.v (.int .i64 0)), (.v (.int .i64 0)), (.v (.int .i64 0)), (.v (.int .i64 0)), (.v (.slice none 0 0))] [])⟩
  (.seq ⟨some 21, none, (.call (.cst (.fn 13 [])) [(.tmp 20)])⟩
  (.seq ⟨some 19, none, (.ofA (.mv (.tmp 21)))⟩
  (.seq ⟨some 22, none, (.ofA (.extract 0 (.tmp 19)))⟩
  (.seq ⟨some 23, none, (.ofA (.extract 1 (.tmp 19)))⟩
  (.seq ⟨some 5, none, (.ofA (.mv (.tmp 22)))⟩
  (.seq ⟨some 6, none, (.ofA (.mv (.tmp 23)))⟩
  .done))))))))
 (.seq (.tree (.seq ⟨some 25, none, (.call (.cst (.fn 15 [])) [(.cst (.v (.slice none 0 0)))])⟩
  (.seq ⟨some 24, none, (.ofA (.mv (.tmp 25)))⟩
  (.seq ⟨some 26, none, (.ofA (.extract 0 (.tmp 24)))⟩
  (.seq ⟨some 27, none, (.ofA (.extract 1 (.tmp 24)))⟩
  (.seq ⟨some 7, none, (.alloc [(.v (.int .i64 0)), (.v (.int .i64 0)), (.v (.int .i64 0)), (.v (.int .i64 0)), (.v (.slice none 0 0))])⟩
  (.seq ⟨none, none, (.store 5 (.tmp 7) (.tmp 26))⟩
  (.seq ⟨some 8, none, (.ofA (.mv (.tmp 27)))⟩
  .done))))))))
 (.seq (.tree (.take ⟨some 28, none, (.ofA (.mv (.tmp 2)))⟩
  (.take ⟨some 29, none, (.ofA (.bin .eql (.tmp 28) (.cst (.v (.int .i64 0)))))⟩
  (.take ⟨some 30, none, (.ofA (.mv (.tmp 29)))⟩
  (.take ⟨some 31, some (30, true), (.ofA (.mv (.tmp 4)))⟩
  (.take ⟨some 32, some (30, true), (.ofA (.bin .eql (.tmp 31) (.cst (.v (.int .i64 0)))))⟩
  (.take ⟨some 33, none, (.ofA (.pick (.tmp 30) (.tmp 32) (.cst (.v (.bool false)))))⟩
  (.take ⟨some 34, none, (.ofA (.mv (.tmp 33)))⟩
  (.take ⟨some 35, some (34, true), (.ofA (.load (some 5) (.tmp 3)))⟩
  (.act true [(⟨some 36, some (34, true), (.call (.cst (.fn 43 [])) [])⟩,
 (.act true [(⟨some 37, some (34, true), (.call (.cst (.fn 17 [])) [(.tmp 35), (.tmp 36)])⟩,
 (.take ⟨some 38, none, (.ofA (.pick (.tmp 34) (.tmp 37) (.cst (.v (.bool false)))))⟩
  (.take ⟨some 39, none, (.ofA (.mv (.tmp 38)))⟩
  (.take ⟨some 40, some (39, true), (.ofA (.mv (.tmp 6)))⟩
  (.take ⟨some 41, some (39, true), (.ofA (.bin .eql (.tmp 40) (.cst (.v (.int .i64 2)))))⟩
  (.take ⟨some 42, none, (.ofA (.pick (.tmp 39) (.tmp 41) (.cst (.v (.bool false)))))⟩
  (.take ⟨some 43, none, (.ofA (.mv (.tmp 42)))⟩
  (.take ⟨some 44, some (43, true), (.ofA (.mv (.tmp 8)))⟩
  (.take ⟨some 45, some (43, true), (.ofA (.bin .eql (.tmp 44) (.cst (.v (.int .i64 2)))))⟩
  (.take ⟨some 46, none, (.ofA (.pick (.tmp 43) (.tmp 45) (.cst (.v (.bool false)))))⟩
  (.take ⟨some 47, none, (.ofA (.mv (.tmp 46)))⟩
  (.take ⟨some 48, some (47, true), (.ofA (.load (some 5) (.tmp 3)))⟩
  (.act true [(⟨some 49, some (47, true), (.build [(.v (.int .i64 0)), (.v (.int .i64 0)), (.v (.int .i64 0)), (.v (.int .i64 0)), (.v (.slice none 0 0))] [])⟩,
 (.act true [(⟨some 50, some (47, true), (.call (.cst (.fn 18 [])) [(.tmp 48), (.tmp 49)])⟩,
 (.take ⟨some 51, some (47, true), (.ofA (.len (.tmp 50)))⟩
  (.take ⟨some 52, some (47, true), (.ofA (.bin .eql (.tmp 51) (.cst (.v (.int .i64 3)))))⟩
  (.take ⟨some 53, none, (.ofA (.pick (.tmp 47) (.tmp 52) (.cst (.v (.bool false)))))⟩
  (.take ⟨some 54, none, (.ofA (.mv (.tmp 53)))⟩
  (.act true [(⟨some 55, some (54, true), (.call (.cst (.fn 44 [])) [(.cst (.v (.pointer none)))])⟩,
 (.take ⟨some 56, some (54, true), (.ofA (.field 4 none (.tmp 55)))⟩
  (.take ⟨some 57, some (54, true), (.ofA (.len (.tmp 56)))⟩
  (.take ⟨some 58, some (54, true), (.ofA (.bin .eql (.tmp 57) (.cst (.v (.int .i64 0)))))⟩
  (.take ⟨some 59, none, (.ofA (.pick (.tmp 54) (.tmp 58) (.cst (.v (.bool false)))))⟩
  (.take ⟨some 0, none, (.ofA (.mv (.tmp 59)))⟩
  .done))))))]))))))]))])))))))))))))]))]))))))))))
 .ret))))))
def r11 : List XR := [.tmp 0]
theorem fn11 : FnX Try.prog 11 [47, 50, 51, 52, 54, 56, 95, 97, 98, 99, 100, 101, 125, 126, 180] 60 x11 r11 := ⟨_, Try.func11, by kernel_rfl, by kernel_rfl, by kernel_rfl, by kernel_rfl⟩
-- almshouse/image.Bytes (1 parameters)
def x13 : XC := (.seq (.tree (.seq ⟨some 1, none, (.box (.tmp 0))⟩
  (.seq ⟨some 2, none, (.ofA (.mv (.cst (.v (.slice none 0 0)))))⟩
  (.seq ⟨some 3, none, (.ofA (.mv (.cst (.v (.int .i64 0)))))⟩
  .done))))
 (.seq (.seq (.tree (.seq ⟨some 13, none, (.ofA (.load (some 5) (.tmp 1)))⟩
  (.seq ⟨some 14, none, (.call (.cst (.fn 45 [])) [(.tmp 13)])⟩
  (.seq ⟨some 15, none, (.ofA (.un .not (.tmp 14)))⟩
  .done))))
 (.cond (.tmp 15)
 (.seq (.tree (.seq ⟨some 2, none, (.ofA (.mv (.cst (.v (.slice none 0 0)))))⟩
  (.seq ⟨some 3, none, (.ofA (.mv (.cst (.v (.int .i64 2)))))⟩
  .done)))
 .ret)
 .skip))
 (.seq (.tree (.seq ⟨some 16, none, (.build [(.v (.slice none 0 0)), (.v (.int .i64 0))] [])⟩
  (.seq ⟨some 17, none, (.box (.tmp 16))⟩
  (.seq ⟨some 4, none, (.ofA (.mv (.tmp 17)))⟩
  .done))))
 (.seq (.tree (.seq ⟨some 5, none, (.ofA (.mv (.cst (.v (.slice none 0 0)))))⟩
  .done))
 (.seq (.seq (.tree (.seq ⟨some 18, none, (.ofA (.faddr 0 (.tmp 1)))⟩
  (.seq ⟨some 19, none, (.ofA (.faddr 0 (.tmp 18)))⟩
  (.seq ⟨some 20, none, (.ofA (.load none (.tmp 19)))⟩
  (.seq ⟨some 21, none, (.ofA (.faddr 0 (.tmp 1)))⟩
  (.seq ⟨some 22, none, (.ofA (.faddr 1 (.tmp 21)))⟩
  (.seq ⟨some 23, none, (.ofA (.load none (.tmp 22)))⟩
  (.seq ⟨some 24, none, (.ofA (.faddr 0 (.tmp 1)))⟩
  (.seq ⟨some 25, none, (.ofA (.faddr 2 (.tmp 24)))⟩
  (.seq ⟨some 26, none, (.ofA (.load none (.tmp 25)))⟩
  (.seq ⟨some 27, none, (.ofA (.faddr 0 (.tmp 1)))⟩
  (.seq ⟨some 28, none, (.ofA (.faddr 3 (.tmp 27)))⟩
  (.seq ⟨some 29, none, (.ofA (.load none (.tmp 28)))⟩
  (.seq ⟨some 30, none, (.buildSl 1 4 [(.v (.int .i64 0)), (.v (.int .i64 0)), (.v (.int .i64 0)), (.v (.int .i64 0))] [(0, 1, (.tmp 20)), (1, 1, (.tmp 23)), (2, 1, (.tmp 26)), (3, 1, (.tmp 29))])⟩
  (.seq ⟨some 31, none, (.ofA (.len (.tmp 30)))⟩
  (.seq ⟨some 32, none, (.ofA (.mv (.cst (.v (.int .i64 0)))))⟩
  .done))))))))))))))))
 (.block 0 (.loop (.seq (.tree (.seq ⟨some 33, none, (.ofA (.bin .lss (.tmp 32) (.tmp 31)))⟩
  .done))
 (.seq (.cond (.tmp 33)
 .skip
 (.exit 0))
 (.seq (.block 1 (.seq (.tree (.seq ⟨some 34, none, (.ofA (.isl 1 (.tmp 30) (.tmp 32)))⟩
  (.seq ⟨some 35, none, (.ofA (.load none (.tmp 34)))⟩
  (.seq ⟨some 7, none, (.ofA (.mv (.tmp 35)))⟩
  .done))))
 (.tree (.seq ⟨some 36, none, (.ofA (.mv (.tmp 5)))⟩
  (.seq ⟨some 37, none, (.ofA (.mv (.tmp 7)))⟩
  (.seq ⟨some 38, none, (.call (.cst (.fn 46 [])) [(.tmp 36), (.tmp 37), (.cst (.v (.int .i64 1)))])⟩
  (.seq ⟨some 5, none, (.ofA (.mv (.tmp 38)))⟩
  .done)))))))
 (.tree (.seq ⟨some 39, none, (.ofA (.bin .add (.tmp 32) (.cst (.v (.int .i64 1)))))⟩
  (.seq ⟨some 32, none, (.ofA (.mv (.tmp 39)))⟩
  .done)))))))))
 (.seq (.tree (.seq ⟨some 40, none, (.ofA (.mv (.tmp 4)))⟩
  (.seq ⟨some 41, none, (.ofA (.mv (.tmp 5)))⟩
  (.seq ⟨some 42, none, (.call (.cst (.fn 47 [])) [(.tmp 40), (.cst (.v (.int .i64 71))), (.tmp 41)])⟩
  .done))))
 (.seq (.seq (.tree (.seq ⟨some 43, none, (.ofA (.faddr 4 (.tmp 1)))⟩
  (.seq ⟨some 44, none, (.ofA (.load none (.tmp 43)))⟩
  (.seq ⟨some 45, none, (.ofA (.len (.tmp 44)))⟩
  (.seq ⟨some 46, none, (.ofA (.mv (.cst (.v (.int .i64 0)))))⟩
  .done)))))
 (.block 2 (.loop (.seq (.tree (.seq ⟨some 47, none, (.ofA (.bin .lss (.tmp 46) (.tmp 45)))⟩
  .done))
 (.seq (.cond (.tmp 47)
 .skip
 (.exit 2))
 (.seq (.block 3 (.seq (.tree (.seq ⟨some 48, none, (.ofA (.isl 3 (.tmp 44) (.tmp 46)))⟩
  (.seq ⟨some 49, none, (.ofA (.load (some 3) (.tmp 48)))⟩
  (.seq ⟨some 9, none, (.alloc [(.v (.bool false)), (.v (.int .i64 0)), (.v (.slice none 0 0))])⟩
  (.seq ⟨none, none, (.store 3 (.tmp 9) (.tmp 49))⟩
  .done)))))
 (.seq (.tree (.take ⟨some 50, none, (.ofA (.mv (.tmp 4)))⟩
  (.take ⟨some 51, none, (.ofA (.faddr 0 (.tmp 9)))⟩
  (.take ⟨some 52, none, (.ofA (.load none (.tmp 51)))⟩
  (.take ⟨some 55, none, (.ofA (.faddr 2 (.tmp 9)))⟩
  (.take ⟨some 56, none, (.ofA (.load none (.tmp 55)))⟩
  (.take ⟨some 57, none, (.ofA (.len (.tmp 56)))⟩
  (.take ⟨some 59, none, (.ofA (.faddr 1 (.tmp 9)))⟩
  (.take ⟨some 60, none, (.ofA (.load none (.tmp 59)))⟩
  (.alt [true] [(⟨some 53, none, (.call (.cst (.fn 48 [])) [(.tmp 52)])⟩,
 (.alt [true] [(⟨some 54, none, (.call (.cst (.fn 46 [])) [(.cst (.v (.slice none 0 0))), (.tmp 53), (.cst (.v (.int .i64 1)))])⟩,
 (.alt [true] [(⟨some 58, none, (.call (.cst (.fn 46 [])) [(.tmp 54), (.tmp 57), (.cst (.v (.int .i64 1)))])⟩,
 (.alt [true] [(⟨some 61, none, (.call (.cst (.fn 46 [])) [(.tmp 58), (.tmp 60), (.cst (.v (.int .i64 4)))])⟩,
 (.alt [false] [(⟨some 62, none, (.call (.cst (.fn 47 [])) [(.tmp 50), (.cst (.v (.int .i64 66))), (.tmp 61)])⟩,
 .done)]))]))]))]))]))))))))))
 (.seq (.tree (.seq ⟨some 63, none, (.ofA (.faddr 2 (.tmp 9)))⟩
  (.seq ⟨some 64, none, (.ofA (.load none (.tmp 63)))⟩
  (.seq ⟨some 65, none, (.ofA (.len (.tmp 64)))⟩
  (.seq ⟨some 66, none, (.ofA (.mv (.cst (.v (.int .i64 0)))))⟩
  .done)))))
 (.block 4 (.loop (.seq (.tree (.seq ⟨some 67, none, (.ofA (.bin .lss (.tmp 66) (.tmp 65)))⟩
  .done))
 (.seq (.cond (.tmp 67)
 .skip
 (.exit 4))
 (.seq (.block 5 (.seq (.tree (.seq ⟨some 68, none, (.ofA (.isl 3 (.tmp 64) (.tmp 66)))⟩
  (.seq ⟨some 69, none, (.ofA (.load (some 3) (.tmp 68)))⟩
  (.seq ⟨some 11, none, (.alloc [(.v (.bool false)), (.v (.string ⟨#[]⟩)), (.v (.string ⟨#[]⟩))])⟩
  (.seq ⟨none, none, (.store 3 (.tmp 11) (.tmp 69))⟩
  .done)))))
 (.seq (.tree (.seq ⟨some 70, none, (.ofA (.faddr 0 (.tmp 11)))⟩
  (.seq ⟨some 71, none, (.ofA (.load none (.tmp 70)))⟩
  (.seq ⟨some 72, none, (.call (.cst (.fn 48 [])) [(.tmp 71)])⟩
  (.seq ⟨some 73, none, (.call (.cst (.fn 46 [])) [(.cst (.v (.slice none 0 0))), (.tmp 72), (.cst (.v (.int .i64 1)))])⟩
  (.seq ⟨some 12, none, (.ofA (.mv (.tmp 73)))⟩
  .done))))))
 (.seq (.seq (.tree (.seq ⟨some 74, none, (.ofA (.faddr 0 (.tmp 11)))⟩
  (.seq ⟨some 75, none, (.ofA (.load none (.tmp 74)))⟩
  (.seq ⟨some 76, none, (.ofA (.un .not (.tmp 75)))⟩
  .done))))
 (.cond (.tmp 76)
 (.tree (.take ⟨some 77, none, (.ofA (.mv (.tmp 12)))⟩
  (.take ⟨some 78, none, (.ofA (.faddr 1 (.tmp 11)))⟩
  (.take ⟨some 79, none, (.ofA (.load none (.tmp 78)))⟩
  (.take ⟨some 81, none, (.ofA (.faddr 2 (.tmp 11)))⟩
  (.take ⟨some 82, none, (.ofA (.load none (.tmp 81)))⟩
  (.act true [(⟨some 80, none, (.call (.cst (.fn 49 [])) [(.tmp 77), (.tmp 79)])⟩,
 (.act true [(⟨some 83, none, (.call (.cst (.fn 49 [])) [(.tmp 80), (.tmp 82)])⟩,
 (.take ⟨some 12, none, (.ofA (.mv (.tmp 83)))⟩
  .done))]))])))))))
 .skip))
 (.tree (.seq ⟨some 84, none, (.ofA (.mv (.tmp 4)))⟩
  (.seq ⟨some 85, none, (.ofA (.mv (.tmp 12)))⟩
  (.seq ⟨some 86, none, (.call (.cst (.fn 47 [])) [(.tmp 84), (.cst (.v (.int .i64 80))), (.tmp 85)])⟩
  .done))))))))
 (.tree (.seq ⟨some 87, none, (.ofA (.bin .add (.tmp 66) (.cst (.v (.int .i64 1)))))⟩
  (.seq ⟨some 66, none, (.ofA (.mv (.tmp 87)))⟩
  .done))))))))))))
 (.tree (.seq ⟨some 88, none, (.ofA (.bin .add (.tmp 46) (.cst (.v (.int .i64 1)))))⟩
  (.seq ⟨some 46, none, (.ofA (.mv (.tmp 88)))⟩
  .done)))))))))
 (.seq (.seq (.tree (.seq ⟨some 89, none, (.ofA (.mv (.tmp 4)))⟩
  (.seq ⟨some 90, none, (.ofA (.nilc (.tmp 89)))⟩
  (.seq ⟨some 91, none, (.ofA (.faddr 1 (.tmp 90)))⟩
  (.seq ⟨some 92, none, (.ofA (.load none (.tmp 91)))⟩
  (.seq ⟨some 93, none, (.ofA (.bin .neq (.tmp 92) (.cst (.v (.int .i64 0)))))⟩
  .done))))))
 (.cond (.tmp 93)
 (.seq (.tree (.take ⟨some 94, none, (.ofA (.mv (.tmp 4)))⟩
  (.take ⟨some 95, none, (.ofA (.nilc (.tmp 94)))⟩
  (.take ⟨some 96, none, (.ofA (.faddr 1 (.tmp 95)))⟩
  (.take ⟨some 97, none, (.ofA (.load none (.tmp 96)))⟩
  (.take ⟨some 2, none, (.ofA (.mv (.cst (.v (.slice none 0 0)))))⟩
  (.take ⟨some 3, none, (.ofA (.mv (.tmp 97)))⟩
  .done)))))))
 .ret)
 .skip))
 (.seq (.tree (.seq ⟨some 98, none, (.ofA (.mv (.tmp 4)))⟩
  (.seq ⟨some 99, none, (.ofA (.nilc (.tmp 98)))⟩
  (.seq ⟨some 100, none, (.ofA (.faddr 0 (.tmp 99)))⟩
  (.seq ⟨some 101, none, (.ofA (.load none (.tmp 100)))⟩
  (.seq ⟨some 2, none, (.ofA (.mv (.tmp 101)))⟩
  (.seq ⟨some 3, none, (.ofA (.mv (.cst (.v (.int .i64 0)))))⟩
  .done)))))))
 .ret)))))))))
def r13 : List XR := [.tmp 2, .tmp 3]
theorem fn13 : FnX Try.prog 13 [47, 50, 51, 52, 54, 56, 95, 97, 98, 99, 100, 101, 125, 126, 180] 102 x13 r13 := ⟨_, Try.func13, by kernel_rfl, by kernel_rfl, by kernel_rfl, by kernel_rfl⟩
-- almshouse/image.Parse (1 parameters)
def x15 : XC := (.seq (.tree (.seq ⟨some 2, none, (.alloc [(.v (.int .i64 0)), (.v (.int .i64 0)), (.v (.int .i64 0)), (.v (.int .i64 0)), (.v (.slice none 0 0))])⟩
  (.seq ⟨some 3, none, (.ofA (.mv (.cst (.v (.int .i64 0)))))⟩
  .done)))
 (.seq (.tree (.seq ⟨some 6, none, (.ofA (.mv (.tmp 0)))⟩
  (.seq ⟨some 7, none, (.build [(.v (.slice none 0 0)), (.v (.int .i64 0))] [(0, 1, (.tmp 6))])⟩
  (.seq ⟨some 8, none, (.box (.tmp 7))⟩
  (.seq ⟨some 4, none, (.ofA (.mv (.tmp 8)))⟩
  .done)))))
 (.seq (.tree (.seq ⟨some 5, none, (.alloc [(.v (.int .i64 0)), (.v (.int .i64 0)), (.v (.int .i64 0)), (.v (.int .i64 0)), (.v (.slice none 0 0))])⟩
  .done))
 (.seq (.tree (.seq ⟨some 9, none, (.ofA (.mv (.tmp 4)))⟩
  (.seq ⟨some 10, none, (.ofA (.mkfn 51 [(.tmp 5)]))⟩
  (.seq ⟨some 11, none, (.call (.cst (.fn 50 [])) [(.tmp 9), (.cst (.v (.int .i64 71))), (.tmp 10)])⟩
  .done))))
 (.seq (.seq (.tree (.seq ⟨some 12, none, (.ofA (.mv (.tmp 4)))⟩
  (.seq ⟨some 13, none, (.ofA (.nilc (.tmp 12)))⟩
  (.seq ⟨some 14, none, (.ofA (.faddr 1 (.tmp 13)))⟩
  (.seq ⟨some 15, none, (.ofA (.load none (.tmp 14)))⟩
  (.seq ⟨some 16, none, (.ofA (.bin .eql (.tmp 15) (.cst (.v (.int .i64 0)))))⟩
  (.seq ⟨some 17, none, (.ofA (.mv (.tmp 16)))⟩
  (.seq ⟨some 18, some (17, true), (.ofA (.faddr 0 (.tmp 5)))⟩
  (.seq ⟨some 19, some (17, true), (.ofA (.load (some 4) (.tmp 18)))⟩
  (.seq ⟨some 20, some (17, true), (.call (.cst (.fn 53 [])) [(.tmp 19)])⟩
  (.seq ⟨some 21, some (17, true), (.ofA (.bin .neq (.tmp 20) (.cst (.v (.int .i64 0)))))⟩
  (.seq ⟨some 22, none, (.ofA (.pick (.tmp 17) (.tmp 21) (.cst (.v (.bool false)))))⟩
  .done))))))))))))
 (.cond (.tmp 22)
 (.tree (.seq ⟨some 23, none, (.ofA (.mv (.tmp 4)))⟩
  (.seq ⟨some 24, none, (.call (.cst (.fn 54 [])) [(.tmp 23), (.cst (.v (.int .i64 2)))])⟩
  .done)))
 .skip))
 (.seq (.seq (.tree (.seq ⟨some 25, none, (.ofA (.faddr 0 (.tmp 5)))⟩
  (.seq ⟨some 26, none, (.ofA (.load (some 4) (.tmp 25)))⟩
  (.seq ⟨some 27, none, (.call (.cst (.fn 55 [])) [(.tmp 26)])⟩
  (.seq ⟨some 28, none, (.ofA (.mv (.cst (.v (.int .i64 0)))))⟩
  .done)))))
 (.block 0 (.loop (.seq (.tree (.seq ⟨some 29, none, (.ofA (.bin .lss (.tmp 28) (.tmp 27)))⟩
  .done))
 (.seq (.cond (.tmp 29)
 .skip
 (.exit 0))
 (.seq (.block 1 (.seq (.tree (.seq ⟨some 30, none, (.ofA (.mv (.tmp 4)))⟩
  (.seq ⟨some 31, none, (.ofA (.nilc (.tmp 30)))⟩
  (.seq ⟨some 32, none, (.ofA (.faddr 1 (.tmp 31)))⟩
  (.seq ⟨some 33, none, (.ofA (.load none (.tmp 32)))⟩
  (.seq ⟨some 34, none, (.ofA (.bin .eql (.tmp 33) (.cst (.v (.int .i64 0)))))⟩
  .done))))))
 (.cond (.tmp 34)
 (.tree (.take ⟨some 35, none, (.ofA (.faddr 4 (.tmp 5)))⟩
  (.take ⟨some 37, none, (.ofA (.mv (.tmp 4)))⟩
  (.alt [true, false] [(⟨some 36, none, (.ofA (.load none (.tmp 35)))⟩,
 (.alt [false] [(⟨some 38, none, (.call (.cst (.fn 56 [])) [(.tmp 37)])⟩,
 (.alt [true] [(⟨some 39, none, (.buildSl 3 1 [(.v (.bool false)), (.v (.int .i64 0)), (.v (.slice none 0 0))] [(0, 3, (.tmp 38))])⟩,
 (.alt [false] [(⟨some 40, none, (.app 3 40 (.tmp 36) (.tmp 39))⟩,
 (.take ⟨some 41, none, (.ofA (.faddr 4 (.tmp 5)))⟩
  (.alt [false] [(⟨none, none, (.store 1 (.tmp 41) (.tmp 40))⟩,
 .done)])))]))]))])), (⟨some 38, none, (.call (.cst (.fn 56 [])) [(.tmp 37)])⟩,
 (.take ⟨some 36, none, (.ofA (.load none (.tmp 35)))⟩
  (.alt [true] [(⟨some 39, none, (.buildSl 3 1 [(.v (.bool false)), (.v (.int .i64 0)), (.v (.slice none 0 0))] [(0, 3, (.tmp 38))])⟩,
 (.alt [false] [(⟨some 40, none, (.app 3 40 (.tmp 36) (.tmp 39))⟩,
 (.take ⟨some 41, none, (.ofA (.faddr 4 (.tmp 5)))⟩
  (.alt [false] [(⟨none, none, (.store 1 (.tmp 41) (.tmp 40))⟩,
 .done)])))]))])))]))))
 .skip)))
 (.tree (.seq ⟨some 42, none, (.ofA (.bin .add (.tmp 28) (.cst (.v (.int .i64 1)))))⟩
  (.seq ⟨some 28, none, (.ofA (.mv (.tmp 42)))⟩
  .done)))))))))
 (.seq (.seq (.tree (.seq ⟨some 43, none, (.ofA (.mv (.tmp 4)))⟩
  (.seq ⟨some 44, none, (.ofA (.nilc (.tmp 43)))⟩
  (.seq ⟨some 45, none, (.ofA (.faddr 1 (.tmp 44)))⟩
  (.seq ⟨some 46, none, (.ofA (.load none (.tmp 45)))⟩
  (.seq ⟨some 47, none, (.ofA (.bin .eql (.tmp 46) (.cst (.v (.int .i64 0)))))⟩
  (.seq ⟨some 48, none, (.ofA (.mv (.tmp 47)))⟩
  (.seq ⟨some 49, some (48, true), (.ofA (.mv (.tmp 4)))⟩
  (.seq ⟨some 50, some (48, true), (.ofA (.nilc (.tmp 49)))⟩
  (.seq ⟨some 51, some (48, true), (.ofA (.faddr 0 (.tmp 50)))⟩
  (.seq ⟨some 52, some (48, true), (.ofA (.load none (.tmp 51)))⟩
  (.seq ⟨some 53, some (48, true), (.ofA (.len (.tmp 52)))⟩
  (.seq ⟨some 54, some (48, true), (.ofA (.bin .gtr (.tmp 53) (.cst (.v (.int .i64 0)))))⟩
  (.seq ⟨some 55, some (48, true), (.ofA (.mv (.tmp 54)))⟩
  (.seq ⟨some 56, some (55, false), (.ofA (.load (some 5) (.tmp 5)))⟩
  (.seq ⟨some 57, some (55, false), (.call (.cst (.fn 45 [])) [(.tmp 56)])⟩
  (.seq ⟨some 58, some (55, false), (.ofA (.un .not (.tmp 57)))⟩
  (.seq ⟨some 59, some (48, true), (.ofA (.pick (.tmp 55) (.cst (.v (.bool true))) (.tmp 58)))⟩
  (.seq ⟨some 60, none, (.ofA (.pick (.tmp 48) (.tmp 59) (.cst (.v (.bool false)))))⟩
  .done)))))))))))))))))))
 (.cond (.tmp 60)
 (.tree (.seq ⟨some 61, none, (.ofA (.mv (.tmp 4)))⟩
  (.seq ⟨some 62, none, (.call (.cst (.fn 54 [])) [(.tmp 61), (.cst (.v (.int .i64 2)))])⟩
  .done)))
 .skip))
 (.seq (.seq (.tree (.seq ⟨some 63, none, (.ofA (.mv (.tmp 4)))⟩
  (.seq ⟨some 64, none, (.ofA (.nilc (.tmp 63)))⟩
  (.seq ⟨some 65, none, (.ofA (.faddr 1 (.tmp 64)))⟩
  (.seq ⟨some 66, none, (.ofA (.load none (.tmp 65)))⟩
  (.seq ⟨some 67, none, (.ofA (.bin .neq (.tmp 66) (.cst (.v (.int .i64 0)))))⟩
  .done))))))
 (.cond (.tmp 67)
 (.seq (.tree (.take ⟨some 69, none, (.ofA (.mv (.tmp 4)))⟩
  (.take ⟨some 70, none, (.ofA (.nilc (.tmp 69)))⟩
  (.take ⟨some 71, none, (.ofA (.faddr 1 (.tmp 70)))⟩
  (.alt [true, true] [(⟨some 68, none, (.build [(.v (.int .i64 0)), (.v (.int .i64 0)), (.v (.int .i64 0)), (.v (.int .i64 0)), (.v (.slice none 0 0))] [])⟩,
 (.alt [true, false] [(⟨some 72, none, (.ofA (.load none (.tmp 71)))⟩,
 (.alt [false] [(⟨none, none, (.store 5 (.tmp 2) (.tmp 68))⟩,
 (.take ⟨some 3, none, (.ofA (.mv (.tmp 72)))⟩
  .done))])), (⟨none, none, (.store 5 (.tmp 2) (.tmp 68))⟩,
 (.take ⟨some 72, none, (.ofA (.load none (.tmp 71)))⟩
  (.take ⟨some 3, none, (.ofA (.mv (.tmp 72)))⟩
  .done)))])), (⟨some 72, none, (.ofA (.load none (.tmp 71)))⟩,
 (.alt [true] [(⟨some 68, none, (.build [(.v (.int .i64 0)), (.v (.int .i64 0)), (.v (.int .i64 0)), (.v (.int .i64 0)), (.v (.slice none 0 0))] [])⟩,
 (.alt [false] [(⟨none, none, (.store 5 (.tmp 2) (.tmp 68))⟩,
 (.take ⟨some 3, none, (.ofA (.mv (.tmp 72)))⟩
  .done))]))]))])))))
 .ret)
 .skip))
 (.seq (.tree (.seq ⟨some 73, none, (.ofA (.load (some 5) (.tmp 5)))⟩
  (.seq ⟨none, none, (.store 5 (.tmp 2) (.tmp 73))⟩
  (.seq ⟨some 3, none, (.ofA (.mv (.cst (.v (.int .i64 0)))))⟩
  .done))))
 .ret)))))))))
def r15 : List XR := [.cell 2 (some 5), .tmp 3]
theorem fn15 : FnX Try.prog 15 [47, 50, 51, 52, 54, 56, 95, 97, 98, 99, 100, 101, 125, 126, 180] 74 x15 r15 := ⟨_, Try.func15, by kernel_rfl, by kernel_rfl, by kernel_rfl, by kernel_rfl⟩
-- almshouse/image.Same (2 parameters)
def x17 : XC := (.seq (.tree (.seq ⟨some 2, none, (.box (.tmp 0))⟩
  (.seq ⟨some 3, none, (.box (.tmp 1))⟩
  (.seq ⟨some 4, none, (.ofA (.mv (.cst (.v (.bool false)))))⟩
  .done))))
 (.seq (.tree (.seq ⟨some 5, none, (.ofA (.faddr 0 (.tmp 2)))⟩
  (.seq ⟨some 6, none, (.ofA (.load (some 4) (.tmp 5)))⟩
  (.seq ⟨some 7, none, (.ofA (.faddr 0 (.tmp 3)))⟩
  (.seq ⟨some 8, none, (.ofA (.load (some 4) (.tmp 7)))⟩
  (.seq ⟨some 9, none, (.ofA (.eqs false [.int, .int, .int, .int] (.tmp 6) (.tmp 8)))⟩
  (.seq ⟨some 10, none, (.ofA (.mv (.tmp 9)))⟩
  (.seq ⟨some 11, some (10, true), (.ofA (.faddr 4 (.tmp 2)))⟩
  (.seq ⟨some 12, some (10, true), (.ofA (.load none (.tmp 11)))⟩
  (.seq ⟨some 13, some (10, true), (.ofA (.faddr 4 (.tmp 3)))⟩
  (.seq ⟨some 14, some (10, true), (.ofA (.load none (.tmp 13)))⟩
  (.seq ⟨some 15, some (10, true), (.call (.cst (.fn 61 [])) [(.tmp 12), (.tmp 14), (.cst (.fn 62 []))])⟩
  (.seq ⟨some 16, none, (.ofA (.pick (.tmp 10) (.tmp 15) (.cst (.v (.bool false)))))⟩
  (.seq ⟨some 4, none, (.ofA (.mv (.tmp 16)))⟩
  .done))))))))))))))
 .ret))
def r17 : List XR := [.tmp 4]
theorem fn17 : FnX Try.prog 17 [47, 50, 51, 52, 54, 56, 95, 97, 98, 99, 100, 101, 125, 126, 180] 17 x17 r17 := ⟨_, Try.func17, by kernel_rfl, by kernel_rfl, by kernel_rfl, by kernel_rfl⟩
-- almshouse/image.Diff (2 parameters)
def x18 : XC := (.seq (.tree (.seq ⟨some 2, none, (.box (.tmp 0))⟩
  (.seq ⟨some 3, none, (.box (.tmp 1))⟩
  (.seq ⟨some 4, none, (.ofA (.mv (.cst (.v (.slice none 0 0)))))⟩
  .done))))
 (.seq (.tree (.seq ⟨some 5, none, (.ofA (.mv (.cst (.v (.slice none 0 0)))))⟩
  .done))
 (.seq (.seq (.tree (.seq ⟨some 7, none, (.ofA (.faddr 4 (.tmp 2)))⟩
  (.seq ⟨some 8, none, (.ofA (.load none (.tmp 7)))⟩
  (.seq ⟨some 9, none, (.ofA (.len (.tmp 8)))⟩
  (.seq ⟨some 10, none, (.ofA (.faddr 4 (.tmp 3)))⟩
  (.seq ⟨some 11, none, (.ofA (.load none (.tmp 10)))⟩
  (.seq ⟨some 12, none, (.ofA (.len (.tmp 11)))⟩
  (.seq ⟨some 13, none, (.ofA (.mx true (.tmp 9) [(.tmp 12)]))⟩
  (.seq ⟨some 14, none, (.ofA (.mv (.cst (.v (.int .i64 0)))))⟩
  .done)))))))))
 (.block 0 (.loop (.seq (.tree (.seq ⟨some 15, none, (.ofA (.bin .lss (.tmp 14) (.tmp 13)))⟩
  .done))
 (.seq (.cond (.tmp 15)
 .skip
 (.exit 0))
 (.seq (.block 1 (.seq (.tree (.seq ⟨some 16, none, (.ofA (.mv (.tmp 14)))⟩
  (.seq ⟨some 6, none, (.ofA (.mv (.tmp 16)))⟩
  .done)))
 (.seq (.tree (.take ⟨some 17, none, (.ofA (.mv (.tmp 6)))⟩
  (.take ⟨some 18, none, (.ofA (.faddr 4 (.tmp 2)))⟩
  (.take ⟨some 19, none, (.ofA (.load none (.tmp 18)))⟩
  (.take ⟨some 20, none, (.ofA (.len (.tmp 19)))⟩
  (.take ⟨some 21, none, (.ofA (.bin .geq (.tmp 17) (.tmp 20)))⟩
  (.take ⟨some 22, none, (.ofA (.mv (.tmp 21)))⟩
  (.take ⟨some 23, some (22, false), (.ofA (.mv (.tmp 6)))⟩
  (.take ⟨some 24, some (22, false), (.ofA (.faddr 4 (.tmp 3)))⟩
  (.take ⟨some 25, some (22, false), (.ofA (.load none (.tmp 24)))⟩
  (.take ⟨some 26, some (22, false), (.ofA (.len (.tmp 25)))⟩
  (.take ⟨some 27, some (22, false), (.ofA (.bin .geq (.tmp 23) (.tmp 26)))⟩
  (.take ⟨some 28, none, (.ofA (.pick (.tmp 22) (.cst (.v (.bool true))) (.tmp 27)))⟩
  (.take ⟨some 29, none, (.ofA (.mv (.tmp 28)))⟩
  (.take ⟨some 30, some (29, false), (.ofA (.faddr 4 (.tmp 2)))⟩
  (.take ⟨some 31, some (29, false), (.ofA (.load none (.tmp 30)))⟩
  (.take ⟨some 32, some (29, false), (.ofA (.mv (.tmp 6)))⟩
  (.take ⟨some 33, some (29, false), (.ofA (.isl 3 (.tmp 31) (.tmp 32)))⟩
  (.take ⟨some 34, some (29, false), (.ofA (.load (some 3) (.tmp 33)))⟩
  (.take ⟨some 35, some (29, false), (.ofA (.faddr 4 (.tmp 3)))⟩
  (.take ⟨some 36, some (29, false), (.ofA (.load none (.tmp 35)))⟩
  (.take ⟨some 37, some (29, false), (.ofA (.mv (.tmp 6)))⟩
  (.take ⟨some 38, some (29, false), (.ofA (.isl 3 (.tmp 36) (.tmp 37)))⟩
  (.take ⟨some 39, some (29, false), (.ofA (.load (some 3) (.tmp 38)))⟩
  (.act true [(⟨some 40, some (29, false), (.call (.cst (.fn 62 [])) [(.tmp 34), (.tmp 39)])⟩,
 (.take ⟨some 41, some (29, false), (.ofA (.un .not (.tmp 40)))⟩
  (.take ⟨some 42, none, (.ofA (.pick (.tmp 29) (.cst (.v (.bool true))) (.tmp 41)))⟩
  .done)))])))))))))))))))))))))))))
 (.cond (.tmp 42)
 (.tree (.seq ⟨some 43, none, (.ofA (.mv (.tmp 5)))⟩
  (.seq ⟨some 44, none, (.ofA (.mv (.tmp 6)))⟩
  (.seq ⟨some 45, none, (.buildSl 1 1 [(.v (.int .i64 0))] [(0, 1, (.tmp 44))])⟩
  (.seq ⟨some 46, none, (.app 1 8 (.tmp 43) (.tmp 45))⟩
  (.seq ⟨some 5, none, (.ofA (.mv (.tmp 46)))⟩
  .done))))))
 .skip))))
 (.tree (.seq ⟨some 47, none, (.ofA (.bin .add (.tmp 14) (.cst (.v (.int .i64 1)))))⟩
  (.seq ⟨some 14, none, (.ofA (.mv (.tmp 47)))⟩
  .done)))))))))
 (.seq (.tree (.seq ⟨some 48, none, (.ofA (.mv (.tmp 5)))⟩
  (.seq ⟨some 4, none, (.ofA (.mv (.tmp 48)))⟩
  .done)))
 .ret))))
def r18 : List XR := [.tmp 4]
theorem fn18 : FnX Try.prog 18 [47, 50, 51, 52, 54, 56, 95, 97, 98, 99, 100, 101, 125, 126, 180] 49 x18 r18 := ⟨_, Try.func18, by kernel_rfl, by kernel_rfl, by kernel_rfl, by kernel_rfl⟩
-- almshouse/almshouselaw43.small (0 parameters)
def x43 : XC := (.seq (.tree (.seq ⟨some 0, none, (.alloc [(.v (.int .i64 0)), (.v (.int .i64 0)), (.v (.int .i64 0)), (.v (.int .i64 0)), (.v (.slice none 0 0))])⟩
  .done))
 (.seq (.tree (.seq ⟨some 1, none, (.build [(.v (.int .i64 0)), (.v (.int .i64 0)), (.v (.int .i64 0)), (.v (.int .i64 0))] [(0, 1, (.cst (.v (.int .i64 1)))), (1, 1, (.cst (.v (.int .i64 1)))), (2, 1, (.cst (.v (.int .i64 3)))), (3, 1, (.cst (.v (.int .i64 2))))])⟩
  (.seq ⟨some 2, none, (.build [(.v (.bool false)), (.v (.int .i64 0)), (.v (.slice none 0 0))] [])⟩
  (.seq ⟨some 3, none, (.build [(.v (.bool false)), (.v (.string ⟨#[]⟩)), (.v (.string ⟨#[]⟩))] [(1, 1, (.cst (.v (.string ⟨#[116]⟩)))), (2, 1, (.cst (.v (.string ⟨#[120]⟩))))])⟩
  (.seq ⟨some 4, none, (.build [(.v (.bool false)), (.v (.string ⟨#[]⟩)), (.v (.string ⟨#[]⟩))] [(0, 1, (.cst (.v (.bool true))))])⟩
  (.seq ⟨some 5, none, (.buildSl 3 2 [(.v (.bool false)), (.v (.string ⟨#[]⟩)), (.v (.string ⟨#[]⟩)), (.v (.bool false)), (.v (.string ⟨#[]⟩)), (.v (.string ⟨#[]⟩))] [(0, 3, (.tmp 3)), (3, 3, (.tmp 4))])⟩
  (.seq ⟨some 6, none, (.build [(.v (.bool false)), (.v (.int .i64 0)), (.v (.slice none 0 0))] [(1, 1, (.cst (.v (.int .i64 3)))), (2, 1, (.tmp 5))])⟩
  (.seq ⟨some 7, none, (.build [(.v (.bool false)), (.v (.int .i64 0)), (.v (.slice none 0 0))] [(0, 1, (.cst (.v (.bool true))))])⟩
  (.seq ⟨some 8, none, (.buildSl 3 3 [(.v (.bool false)), (.v (.int .i64 0)), (.v (.slice none 0 0)), (.v (.bool false)), (.v (.int .i64 0)), (.v (.slice none 0 0)), (.v (.bool false)), (.v (.int .i64 0)), (.v (.slice none 0 0))] [(0, 3, (.tmp 2)), (3, 3, (.tmp 6)), (6, 3, (.tmp 7))])⟩
  (.seq ⟨some 9, none, (.build [(.v (.int .i64 0)), (.v (.int .i64 0)), (.v (.int .i64 0)), (.v (.int .i64 0)), (.v (.slice none 0 0))] [(0, 4, (.tmp 1)), (4, 1, (.tmp 8))])⟩
  (.seq ⟨none, none, (.store 5 (.tmp 0) (.tmp 9))⟩
  .done)))))))))))
 .ret))
def r43 : List XR := [.cell 0 (some 5)]
theorem fn43 : FnX Try.prog 43 [47, 50, 51, 52, 54, 56, 95, 97, 98, 99, 100, 101, 125, 126, 180] 10 x43 r43 := ⟨_, Try.func43, by kernel_rfl, by kernel_rfl, by kernel_rfl, by kernel_rfl⟩
-- almshouse/image.Take (1 parameters)
def x44 : XC := (.seq (.tree (.seq ⟨some 2, none, (.alloc [(.v (.int .i64 0)), (.v (.int .i64 0)), (.v (.int .i64 0)), (.v (.int .i64 0)), (.v (.slice none 0 0))])⟩
  .done))
 (.seq (.tree (.seq ⟨some 10, none, (.ofA (.mv (.tmp 0)))⟩
  (.seq ⟨some 11, none, (.call (.cst (.fn 80 [])) [(.tmp 10)])⟩
  (.seq ⟨some 12, none, (.build [(.v (.int .i64 0)), (.v (.int .i64 0)), (.v (.int .i64 0)), (.v (.int .i64 0)), (.v (.slice none 0 0))] [(0, 4, (.tmp 11))])⟩
  (.seq ⟨some 3, none, (.alloc [(.v (.int .i64 0)), (.v (.int .i64 0)), (.v (.int .i64 0)), (.v (.int .i64 0)), (.v (.slice none 0 0))])⟩
  (.seq ⟨none, none, (.store 5 (.tmp 3) (.tmp 12))⟩
  .done))))))
 (.seq (.seq (.tree (.seq ⟨some 13, none, (.ofA (.mv (.tmp 0)))⟩
  (.seq ⟨some 14, none, (.call (.cst (.fn 81 [])) [(.tmp 13)])⟩
  (.seq ⟨some 15, none, (.ofA (.mv (.cst (.v (.int .i64 0)))))⟩
  .done))))
 (.block 0 (.loop (.seq (.tree (.seq ⟨some 16, none, (.ofA (.bin .lss (.tmp 15) (.tmp 14)))⟩
  .done))
 (.seq (.cond (.tmp 16)
 .skip
 (.exit 0))
 (.seq (.block 1 (.seq (.tree (.seq ⟨some 17, none, (.ofA (.mv (.tmp 15)))⟩
  (.seq ⟨some 4, none, (.ofA (.mv (.tmp 17)))⟩
  .done)))
 (.seq (.tree (.seq ⟨some 18, none, (.ofA (.mv (.tmp 0)))⟩
  (.seq ⟨some 19, none, (.ofA (.mv (.tmp 4)))⟩
  (.seq ⟨some 20, none, (.call (.cst (.fn 82 [])) [(.tmp 18), (.tmp 19)])⟩
  (.seq ⟨some 21, none, (.ofA (.mv (.tmp 0)))⟩
  (.seq ⟨some 22, none, (.ofA (.mv (.tmp 4)))⟩
  (.seq ⟨some 23, none, (.call (.cst (.fn 83 [])) [(.tmp 21), (.tmp 22)])⟩
  (.seq ⟨some 24, none, (.ofA (.mx false (.tmp 23) [(.cst (.v (.int .i64 2147483647)))]))⟩
  (.seq ⟨some 25, none, (.build [(.v (.bool false)), (.v (.int .i64 0)), (.v (.slice none 0 0))] [(0, 1, (.tmp 20)), (1, 1, (.tmp 24))])⟩
  (.seq ⟨some 5, none, (.alloc [(.v (.bool false)), (.v (.int .i64 0)), (.v (.slice none 0 0))])⟩
  (.seq ⟨none, none, (.store 3 (.tmp 5) (.tmp 25))⟩
  .done)))))))))))
 (.seq (.seq (.tree (.seq ⟨some 26, none, (.ofA (.mv (.tmp 0)))⟩
  (.seq ⟨some 27, none, (.ofA (.mv (.tmp 4)))⟩
  (.seq ⟨some 28, none, (.call (.cst (.fn 84 [])) [(.tmp 26), (.tmp 27)])⟩
  (.seq ⟨some 29, none, (.ofA (.mv (.cst (.v (.int .i64 0)))))⟩
  .done)))))
 (.block 2 (.loop (.seq (.tree (.seq ⟨some 30, none, (.ofA (.bin .lss (.tmp 29) (.tmp 28)))⟩
  .done))
 (.seq (.cond (.tmp 30)
 .skip
 (.exit 2))
 (.seq (.block 3 (.seq (.tree (.seq ⟨some 31, none, (.ofA (.mv (.tmp 29)))⟩
  (.seq ⟨some 6, none, (.ofA (.mv (.tmp 31)))⟩
  .done)))
 (.seq (.tree (.seq ⟨some 33, none, (.ofA (.mv (.tmp 0)))⟩
  (.seq ⟨some 34, none, (.ofA (.mv (.tmp 4)))⟩
  (.seq ⟨some 35, none, (.ofA (.mv (.tmp 6)))⟩
  (.seq ⟨some 36, none, (.call (.cst (.fn 85 [])) [(.tmp 33), (.tmp 34), (.tmp 35)])⟩
  (.seq ⟨some 32, none, (.ofA (.mv (.tmp 36)))⟩
  (.seq ⟨some 37, none, (.ofA (.extract 0 (.tmp 32)))⟩
  (.seq ⟨some 38, none, (.ofA (.extract 1 (.tmp 32)))⟩
  (.seq ⟨some 39, none, (.ofA (.extract 2 (.tmp 32)))⟩
  (.seq ⟨some 7, none, (.ofA (.mv (.tmp 37)))⟩
  (.seq ⟨some 8, none, (.ofA (.mv (.tmp 38)))⟩
  (.seq ⟨some 9, none, (.ofA (.mv (.tmp 39)))⟩
  .done))))))))))))
 (.tree (.seq ⟨some 40, none, (.ofA (.faddr 2 (.tmp 5)))⟩
  (.seq ⟨some 41, none, (.ofA (.load none (.tmp 40)))⟩
  (.seq ⟨some 42, none, (.ofA (.mv (.tmp 9)))⟩
  (.seq ⟨some 43, none, (.ofA (.bin .neq (.tmp 42) (.cst (.v (.int .i64 0)))))⟩
  (.seq ⟨some 44, none, (.ofA (.mv (.tmp 7)))⟩
  (.seq ⟨some 45, none, (.ofA (.b2s (.tmp 44)))⟩
  (.seq ⟨some 46, none, (.ofA (.mv (.tmp 8)))⟩
  (.seq ⟨some 47, none, (.build [(.v (.bool false)), (.v (.string ⟨#[]⟩)), (.v (.string ⟨#[]⟩))] [(0, 1, (.tmp 43)), (1, 1, (.tmp 45)), (2, 1, (.tmp 46))])⟩
  (.seq ⟨some 48, none, (.buildSl 3 1 [(.v (.bool false)), (.v (.string ⟨#[]⟩)), (.v (.string ⟨#[]⟩))] [(0, 3, (.tmp 47))])⟩
  (.seq ⟨some 49, none, (.app 3 40 (.tmp 41) (.tmp 48))⟩
  (.seq ⟨some 50, none, (.ofA (.faddr 2 (.tmp 5)))⟩
  (.seq ⟨none, none, (.store 1 (.tmp 50) (.tmp 49))⟩
  .done))))))))))))))))
 (.tree (.seq ⟨some 51, none, (.ofA (.bin .add (.tmp 29) (.cst (.v (.int .i64 1)))))⟩
  (.seq ⟨some 29, none, (.ofA (.mv (.tmp 51)))⟩
  .done)))))))))
 (.tree (.seq ⟨some 52, none, (.ofA (.faddr 4 (.tmp 3)))⟩
  (.seq ⟨some 53, none, (.ofA (.load none (.tmp 52)))⟩
  (.seq ⟨some 54, none, (.ofA (.load (some 3) (.tmp 5)))⟩
  (.seq ⟨some 55, none, (.buildSl 3 1 [(.v (.bool false)), (.v (.int .i64 0)), (.v (.slice none 0 0))] [(0, 3, (.tmp 54))])⟩
  (.seq ⟨some 56, none, (.app 3 40 (.tmp 53) (.tmp 55))⟩
  (.seq ⟨some 57, none, (.ofA (.faddr 4 (.tmp 3)))⟩
  (.seq ⟨none, none, (.store 1 (.tmp 57) (.tmp 56))⟩
  .done))))))))))))
 (.tree (.seq ⟨some 58, none, (.ofA (.bin .add (.tmp 15) (.cst (.v (.int .i64 1)))))⟩
  (.seq ⟨some 15, none, (.ofA (.mv (.tmp 58)))⟩
  .done)))))))))
 (.seq (.tree (.seq ⟨some 59, none, (.ofA (.load (some 5) (.tmp 3)))⟩
  (.seq ⟨none, none, (.store 5 (.tmp 2) (.tmp 59))⟩
  .done)))
 .ret))))
def r44 : List XR := [.cell 2 (some 5)]
theorem fn44 : FnX Try.prog 44 [47, 50, 51, 52, 54, 56, 95, 97, 98, 99, 100, 101, 125, 126, 180] 60 x44 r44 := ⟨_, Try.func44, by kernel_rfl, by kernel_rfl, by kernel_rfl, by kernel_rfl⟩
-- (almshouse/image.Picture).may (1 parameters)
def x45 : XC := (.seq (.tree (.seq ⟨some 1, none, (.box (.tmp 0))⟩
  (.seq ⟨some 2, none, (.ofA (.mv (.cst (.v (.bool false)))))⟩
  .done)))
 (.seq (.seq (.tree (.take ⟨some 5, none, (.ofA (.faddr 0 (.tmp 1)))⟩
  (.take ⟨some 6, none, (.ofA (.load (some 4) (.tmp 5)))⟩
  (.act true [(⟨some 7, none, (.call (.cst (.fn 53 [])) [(.tmp 6)])⟩,
 (.take ⟨some 8, none, (.ofA (.bin .neq (.tmp 7) (.cst (.v (.int .i64 0)))))⟩
  (.take ⟨some 9, none, (.ofA (.mv (.tmp 8)))⟩
  (.take ⟨some 10, some (9, false), (.ofA (.faddr 4 (.tmp 1)))⟩
  (.take ⟨some 11, some (9, false), (.ofA (.load none (.tmp 10)))⟩
  (.take ⟨some 12, some (9, false), (.ofA (.len (.tmp 11)))⟩
  (.take ⟨some 13, some (9, false), (.ofA (.faddr 0 (.tmp 1)))⟩
  (.take ⟨some 14, some (9, false), (.ofA (.load (some 4) (.tmp 13)))⟩
  (.act true [(⟨some 15, some (9, false), (.call (.cst (.fn 55 [])) [(.tmp 14)])⟩,
 (.take ⟨some 16, some (9, false), (.ofA (.bin .neq (.tmp 12) (.tmp 15)))⟩
  (.take ⟨some 17, none, (.ofA (.pick (.tmp 9) (.cst (.v (.bool true))) (.tmp 16)))⟩
  .done)))])))))))))]))))
 (.cond (.tmp 17)
 (.seq (.tree (.seq ⟨some 2, none, (.ofA (.mv (.cst (.v (.bool false)))))⟩
  .done))
 .ret)
 .skip))
 (.seq (.seq (.tree (.seq ⟨some 18, none, (.ofA (.faddr 4 (.tmp 1)))⟩
  (.seq ⟨some 19, none, (.ofA (.load none (.tmp 18)))⟩
  (.seq ⟨some 20, none, (.ofA (.len (.tmp 19)))⟩
  (.seq ⟨some 21, none, (.ofA (.mv (.cst (.v (.int .i64 0)))))⟩
  .done)))))
 (.block 0 (.loop (.seq (.tree (.seq ⟨some 22, none, (.ofA (.bin .lss (.tmp 21) (.tmp 20)))⟩
  .done))
 (.seq (.cond (.tmp 22)
 .skip
 (.exit 0))
 (.seq (.block 1 (.seq (.tree (.seq ⟨some 23, none, (.ofA (.mv (.tmp 21)))⟩
  (.seq ⟨some 24, none, (.ofA (.isl 3 (.tmp 19) (.tmp 21)))⟩
  (.seq ⟨some 25, none, (.ofA (.load (some 3) (.tmp 24)))⟩
  (.seq ⟨some 4, none, (.alloc [(.v (.bool false)), (.v (.int .i64 0)), (.v (.slice none 0 0))])⟩
  (.seq ⟨some 3, none, (.ofA (.mv (.tmp 23)))⟩
  (.seq ⟨none, none, (.store 3 (.tmp 4) (.tmp 25))⟩
  .done)))))))
 (.seq (.block 2 (.seq (.seq (.tree (.seq ⟨some 27, none, (.ofA (.faddr 0 (.tmp 4)))⟩
  (.seq ⟨some 28, none, (.ofA (.load none (.tmp 27)))⟩
  (.seq ⟨some 29, none, (.ofA (.mv (.tmp 28)))⟩
  (.seq ⟨some 30, some (29, true), (.ofA (.mv (.tmp 3)))⟩
  (.seq ⟨some 31, some (29, true), (.ofA (.bin .lss (.tmp 30) (.cst (.v (.int .i64 2)))))⟩
  (.seq ⟨some 32, none, (.ofA (.pick (.tmp 29) (.tmp 31) (.cst (.v (.bool false)))))⟩
  (.seq ⟨some 26, none, (.ofA (.mv (.tmp 32)))⟩
  .done))))))))
 (.cond (.tmp 26)
 .skip
 (.seq (.tree (.seq ⟨some 33, none, (.ofA (.faddr 1 (.tmp 4)))⟩
  (.seq ⟨some 34, none, (.ofA (.load none (.tmp 33)))⟩
  (.seq ⟨some 35, none, (.ofA (.bin .lss (.tmp 34) (.cst (.v (.int .i64 0)))))⟩
  (.seq ⟨some 26, none, (.ofA (.mv (.tmp 35)))⟩
  .done)))))
 (.cond (.tmp 26)
 .skip
 (.seq (.tree (.seq ⟨some 36, none, (.ofA (.faddr 1 (.tmp 4)))⟩
  (.seq ⟨some 37, none, (.ofA (.load none (.tmp 36)))⟩
  (.seq ⟨some 38, none, (.ofA (.bin .gtr (.tmp 37) (.cst (.v (.int .i64 2147483647)))))⟩
  (.seq ⟨some 26, none, (.ofA (.mv (.tmp 38)))⟩
  .done)))))
 (.cond (.tmp 26)
 .skip
 (.tree (.seq ⟨some 39, none, (.ofA (.faddr 2 (.tmp 4)))⟩
  (.seq ⟨some 40, none, (.ofA (.load none (.tmp 39)))⟩
  (.seq ⟨some 41, none, (.ofA (.len (.tmp 40)))⟩
  (.seq ⟨some 42, none, (.ofA (.faddr 0 (.tmp 1)))⟩
  (.seq ⟨some 43, none, (.ofA (.faddr 3 (.tmp 42)))⟩
  (.seq ⟨some 44, none, (.ofA (.load none (.tmp 43)))⟩
  (.seq ⟨some 45, none, (.ofA (.bin .gtr (.tmp 41) (.tmp 44)))⟩
  (.seq ⟨some 26, none, (.ofA (.mv (.tmp 45)))⟩
  .done)))))))))))))))
 (.cond (.tmp 26)
 (.seq (.tree (.seq ⟨some 2, none, (.ofA (.mv (.cst (.v (.bool false)))))⟩
  .done))
 .ret)
 .skip)))
 (.seq (.tree (.seq ⟨some 46, none, (.ofA (.faddr 2 (.tmp 4)))⟩
  (.seq ⟨some 47, none, (.ofA (.load none (.tmp 46)))⟩
  (.seq ⟨some 48, none, (.call (.cst (.fn 86 [])) [(.tmp 47), (.cst (.fn 87 []))])⟩
  .done))))
 (.cond (.tmp 48)
 (.seq (.tree (.seq ⟨some 2, none, (.ofA (.mv (.cst (.v (.bool false)))))⟩
  .done))
 .ret)
 .skip)))))
 (.tree (.seq ⟨some 49, none, (.ofA (.bin .add (.tmp 21) (.cst (.v (.int .i64 1)))))⟩
  (.seq ⟨some 21, none, (.ofA (.mv (.tmp 49)))⟩
  .done)))))))))
 (.seq (.tree (.seq ⟨some 2, none, (.ofA (.mv (.cst (.v (.bool true)))))⟩
  .done))
 .ret))))
def r45 : List XR := [.tmp 2]
theorem fn45 : FnX Try.prog 45 [47, 50, 51, 52, 54, 56, 95, 97, 98, 99, 100, 101, 125, 126, 180] 50 x45 r45 := ⟨_, Try.func45, by kernel_rfl, by kernel_rfl, by kernel_rfl, by kernel_rfl⟩
-- almshouse/word.Put (3 parameters)
def x46 : XC := (.seq (.tree (.seq ⟨some 6, none, (.ofA (.mv (.cst (.v (.slice none 0 0)))))⟩
  .done))
 (.seq (.tree (.seq ⟨some 8, none, (.ofA (.mv (.tmp 0)))⟩
  (.seq ⟨some 9, none, (.call (.cst (.fn 90 [])) [(.tmp 8)])⟩
  (.seq ⟨some 10, none, (.call (.cst (.fn 89 [])) [(.tmp 9)])⟩
  (.seq ⟨some 7, none, (.ofA (.mv (.tmp 10)))⟩
  .done)))))
 (.seq (.seq (.tree (.seq ⟨some 11, none, (.ofA (.mv (.tmp 1)))⟩
  (.seq ⟨some 12, none, (.ofA (.mv (.tmp 2)))⟩
  (.seq ⟨some 13, none, (.call (.cst (.fn 91 [])) [(.tmp 11), (.tmp 12)])⟩
  (.seq ⟨some 14, none, (.ofA (.un .not (.tmp 13)))⟩
  .done)))))
 (.cond (.tmp 14)
 (.seq (.tree (.seq ⟨some 15, none, (.ofA (.mv (.tmp 7)))⟩
  (.seq ⟨some 6, none, (.ofA (.mv (.tmp 15)))⟩
  .done)))
 .ret)
 .skip))
 (.seq (.seq (.tree (.seq ⟨some 16, none, (.ofA (.mv (.tmp 2)))⟩
  (.seq ⟨some 17, none, (.ofA (.mv (.cst (.v (.int .i64 0)))))⟩
  .done)))
 (.block 0 (.loop (.seq (.tree (.seq ⟨some 18, none, (.ofA (.bin .lss (.tmp 17) (.tmp 16)))⟩
  .done))
 (.seq (.cond (.tmp 18)
 .skip
 (.exit 0))
 (.seq (.block 1 (.seq (.tree (.seq ⟨some 19, none, (.ofA (.mv (.tmp 7)))⟩
  (.seq ⟨some 20, none, (.ofA (.mv (.tmp 1)))⟩
  (.seq ⟨some 21, none, (.ofA (.conv .u8 (.tmp 20)))⟩
  (.seq ⟨some 22, none, (.buildSl 1 1 [(.v (.int .u8 0))] [(0, 1, (.tmp 21))])⟩
  (.seq ⟨some 23, none, (.app 1 1 (.tmp 19) (.tmp 22))⟩
  (.seq ⟨some 7, none, (.ofA (.mv (.tmp 23)))⟩
  .done)))))))
 (.tree (.seq ⟨some 24, none, (.ofA (.mv (.tmp 1)))⟩
  (.seq ⟨some 25, none, (.ofA (.bin .shr (.tmp 24) (.cst (.v (.int .u64 8)))))⟩
  (.seq ⟨some 1, none, (.ofA (.mv (.tmp 25)))⟩
  .done))))))
 (.tree (.seq ⟨some 26, none, (.ofA (.bin .add (.tmp 17) (.cst (.v (.int .i64 1)))))⟩
  (.seq ⟨some 17, none, (.ofA (.mv (.tmp 26)))⟩
  .done)))))))))
 (.seq (.tree (.seq ⟨some 27, none, (.ofA (.mv (.tmp 7)))⟩
  (.seq ⟨some 6, none, (.ofA (.mv (.tmp 27)))⟩
  .done)))
 .ret)))))
def r46 : List XR := [.tmp 6]
theorem fn46 : FnX Try.prog 46 [47, 50, 51, 52, 54, 56, 95, 97, 98, 99, 100, 101, 125, 126, 180] 28 x46 r46 := ⟨_, Try.func46, by kernel_rfl, by kernel_rfl, by kernel_rfl, by kernel_rfl⟩
-- (*almshouse/image.writer).frame (3 parameters)
def x47 : XC := (.seq (.tree (.seq ⟨some 9, none, (.ofA (.mv (.tmp 1)))⟩
  (.seq ⟨some 10, none, (.ofA (.mv (.tmp 2)))⟩
  (.seq ⟨some 11, none, (.call (.cst (.fn 92 [])) [(.tmp 9), (.tmp 10)])⟩
  (.seq ⟨some 8, none, (.ofA (.mv (.tmp 11)))⟩
  (.seq ⟨some 12, none, (.ofA (.extract 0 (.tmp 8)))⟩
  (.seq ⟨some 13, none, (.ofA (.extract 1 (.tmp 8)))⟩
  (.seq ⟨some 6, none, (.ofA (.mv (.tmp 12)))⟩
  (.seq ⟨some 7, none, (.ofA (.mv (.tmp 13)))⟩
  .done)))))))))
 (.seq (.tree (.seq ⟨some 14, none, (.ofA (.mv (.tmp 0)))⟩
  (.seq ⟨some 15, none, (.ofA (.nilc (.tmp 14)))⟩
  (.seq ⟨some 16, none, (.ofA (.faddr 1 (.tmp 15)))⟩
  (.seq ⟨some 17, none, (.ofA (.load none (.tmp 16)))⟩
  (.seq ⟨some 18, none, (.ofA (.bin .eql (.tmp 17) (.cst (.v (.int .i64 0)))))⟩
  .done))))))
 (.cond (.tmp 18)
 (.tree (.seq ⟨some 19, none, (.ofA (.mv (.tmp 0)))⟩
  (.seq ⟨some 20, none, (.ofA (.mv (.tmp 0)))⟩
  (.seq ⟨some 21, none, (.ofA (.mv (.tmp 0)))⟩
  (.seq ⟨some 22, none, (.ofA (.nilc (.tmp 21)))⟩
  (.seq ⟨some 23, none, (.ofA (.faddr 0 (.tmp 22)))⟩
  (.seq ⟨some 24, none, (.ofA (.load none (.tmp 23)))⟩
  (.seq ⟨some 25, none, (.ofA (.mv (.tmp 6)))⟩
  (.seq ⟨some 26, none, (.app 1 1 (.tmp 24) (.tmp 25))⟩
  (.seq ⟨some 27, none, (.ofA (.mv (.tmp 7)))⟩
  (.seq ⟨some 28, none, (.ofA (.nilc (.tmp 19)))⟩
  (.seq ⟨some 29, none, (.ofA (.faddr 0 (.tmp 28)))⟩
  (.seq ⟨none, none, (.store 1 (.tmp 29) (.tmp 26))⟩
  (.seq ⟨some 30, none, (.ofA (.nilc (.tmp 20)))⟩
  (.seq ⟨some 31, none, (.ofA (.faddr 1 (.tmp 30)))⟩
  (.seq ⟨none, none, (.store 1 (.tmp 31) (.tmp 27))⟩
  .done))))))))))))))))
 .skip)))
def r47 : List XR := []
theorem fn47 : FnX Try.prog 47 [47, 50, 51, 52, 54, 56, 95, 97, 98, 99, 100, 101, 125, 126, 180] 32 x47 r47 := ⟨_, Try.func47, by kernel_rfl, by kernel_rfl, by kernel_rfl, by kernel_rfl⟩
-- almshouse/image.flag (1 parameters)
def x48 : XC := (.seq (.tree (.seq ⟨some 2, none, (.ofA (.mv (.cst (.v (.int .i64 0)))))⟩
  .done))
 (.seq (.seq (.tree (.seq ⟨some 3, none, (.ofA (.mv (.tmp 0)))⟩
  .done))
 (.cond (.tmp 3)
 (.seq (.tree (.seq ⟨some 2, none, (.ofA (.mv (.cst (.v (.int .i64 1)))))⟩
  .done))
 .ret)
 .skip))
 (.seq (.tree (.seq ⟨some 2, none, (.ofA (.mv (.cst (.v (.int .i64 0)))))⟩
  .done))
 .ret)))
def r48 : List XR := [.tmp 2]
theorem fn48 : FnX Try.prog 48 [47, 50, 51, 52, 54, 56, 95, 97, 98, 99, 100, 101, 125, 126, 180] 4 x48 r48 := ⟨_, Try.func48, by kernel_rfl, by kernel_rfl, by kernel_rfl, by kernel_rfl⟩
-- almshouse/word.Text (2 parameters)
def x49 : XC := (.seq (.tree (.seq ⟨some 4, none, (.ofA (.mv (.cst (.v (.slice none 0 0)))))⟩
  .done))
 (.seq (.seq (.tree (.seq ⟨some 5, none, (.ofA (.mv (.tmp 1)))⟩
  (.seq ⟨some 6, none, (.ofA (.lens (.tmp 5)))⟩
  (.seq ⟨some 7, none, (.ofA (.bin .gtr (.tmp 6) (.cst (.v (.int .i64 65535)))))⟩
  .done))))
 (.cond (.tmp 7)
 (.seq (.tree (.seq ⟨some 8, none, (.ofA (.mv (.tmp 0)))⟩
  (.seq ⟨some 9, none, (.call (.cst (.fn 90 [])) [(.tmp 8)])⟩
  (.seq ⟨some 4, none, (.ofA (.mv (.tmp 9)))⟩
  .done))))
 .ret)
 .skip))
 (.seq (.tree (.seq ⟨some 10, none, (.ofA (.mv (.tmp 0)))⟩
  (.seq ⟨some 11, none, (.ofA (.mv (.tmp 1)))⟩
  (.seq ⟨some 12, none, (.ofA (.lens (.tmp 11)))⟩
  (.seq ⟨some 13, none, (.call (.cst (.fn 46 [])) [(.tmp 10), (.tmp 12), (.cst (.v (.int .i64 2)))])⟩
  (.seq ⟨some 14, none, (.ofA (.mv (.tmp 1)))⟩
  (.seq ⟨some 15, none, (.apps 1 (.tmp 13) (.tmp 14))⟩
  (.seq ⟨some 4, none, (.ofA (.mv (.tmp 15)))⟩
  .done))))))))
 .ret)))
def r49 : List XR := [.tmp 4]
theorem fn49 : FnX Try.prog 49 [47, 50, 51, 52, 54, 56, 95, 97, 98, 99, 100, 101, 125, 126, 180] 16 x49 r49 := ⟨_, Try.func49, by kernel_rfl, by kernel_rfl, by kernel_rfl, by kernel_rfl⟩
-- (*almshouse/image.reader).next (3 parameters)
def x50 : XC := (.seq (.seq (.tree (.seq ⟨some 11, none, (.ofA (.mv (.tmp 0)))⟩
  (.seq ⟨some 12, none, (.ofA (.nilc (.tmp 11)))⟩
  (.seq ⟨some 13, none, (.ofA (.faddr 1 (.tmp 12)))⟩
  (.seq ⟨some 14, none, (.ofA (.load none (.tmp 13)))⟩
  (.seq ⟨some 15, none, (.ofA (.bin .neq (.tmp 14) (.cst (.v (.int .i64 0)))))⟩
  .done))))))
 (.cond (.tmp 15)
 .ret
 .skip))
 (.seq (.tree (.seq ⟨some 17, none, (.ofA (.mv (.tmp 0)))⟩
  (.seq ⟨some 18, none, (.ofA (.nilc (.tmp 17)))⟩
  (.seq ⟨some 19, none, (.ofA (.faddr 0 (.tmp 18)))⟩
  (.seq ⟨some 20, none, (.ofA (.load none (.tmp 19)))⟩
  (.seq ⟨some 21, none, (.call (.cst (.fn 93 [])) [(.tmp 20)])⟩
  (.seq ⟨some 16, none, (.ofA (.mv (.tmp 21)))⟩
  (.seq ⟨some 22, none, (.ofA (.extract 0 (.tmp 16)))⟩
  (.seq ⟨some 23, none, (.ofA (.extract 1 (.tmp 16)))⟩
  (.seq ⟨some 24, none, (.ofA (.extract 2 (.tmp 16)))⟩
  (.seq ⟨some 25, none, (.ofA (.extract 3 (.tmp 16)))⟩
  (.seq ⟨some 6, none, (.ofA (.mv (.tmp 22)))⟩
  (.seq ⟨some 7, none, (.ofA (.mv (.tmp 23)))⟩
  (.seq ⟨some 8, none, (.ofA (.mv (.tmp 24)))⟩
  (.seq ⟨some 9, none, (.ofA (.mv (.tmp 25)))⟩
  .done)))))))))))))))
 (.seq (.seq (.tree (.seq ⟨some 26, none, (.ofA (.mv (.tmp 9)))⟩
  (.seq ⟨some 27, none, (.ofA (.bin .neq (.tmp 26) (.cst (.v (.int .i64 0)))))⟩
  .done)))
 (.cond (.tmp 27)
 (.seq (.tree (.seq ⟨some 28, none, (.ofA (.mv (.tmp 0)))⟩
  (.seq ⟨some 29, none, (.ofA (.mv (.tmp 9)))⟩
  (.seq ⟨some 30, none, (.call (.cst (.fn 54 [])) [(.tmp 28), (.tmp 29)])⟩
  .done))))
 .ret)
 .skip))
 (.seq (.tree (.seq ⟨some 31, none, (.ofA (.mv (.tmp 7)))⟩
  (.seq ⟨some 32, none, (.call (.cst (.fn 94 [])) [(.tmp 31)])⟩
  (.seq ⟨some 10, none, (.ofA (.mv (.tmp 32)))⟩
  .done))))
 (.seq (.tree (.seq ⟨some 33, none, (.ofA (.mv (.tmp 2)))⟩
  (.seq ⟨some 34, none, (.ofA (.mv (.tmp 10)))⟩
  (.seq ⟨some 35, none, (.call (.tmp 33) [(.tmp 34)])⟩
  .done))))
 (.seq (.seq (.tree (.seq ⟨some 36, none, (.ofA (.mv (.tmp 6)))⟩
  (.seq ⟨some 37, none, (.ofA (.mv (.tmp 1)))⟩
  (.seq ⟨some 38, none, (.ofA (.bin .neq (.tmp 36) (.tmp 37)))⟩
  (.seq ⟨some 39, none, (.ofA (.mv (.tmp 38)))⟩
  (.seq ⟨some 40, some (39, false), (.ofA (.mv (.tmp 10)))⟩
  (.seq ⟨some 41, some (39, false), (.call (.cst (.fn 95 [])) [(.tmp 40)])⟩
  (.seq ⟨some 42, some (39, false), (.ofA (.bin .neq (.tmp 41) (.cst (.v (.int .i64 0)))))⟩
  (.seq ⟨some 43, none, (.ofA (.pick (.tmp 39) (.cst (.v (.bool true))) (.tmp 42)))⟩
  .done)))))))))
 (.cond (.tmp 43)
 (.tree (.seq ⟨some 44, none, (.ofA (.mv (.tmp 0)))⟩
  (.seq ⟨some 45, none, (.call (.cst (.fn 54 [])) [(.tmp 44), (.cst (.v (.int .i64 2)))])⟩
  .done)))
 .skip))
 (.tree (.seq ⟨some 46, none, (.ofA (.mv (.tmp 0)))⟩
  (.seq ⟨some 47, none, (.ofA (.mv (.tmp 0)))⟩
  (.seq ⟨some 48, none, (.ofA (.nilc (.tmp 47)))⟩
  (.seq ⟨some 49, none, (.ofA (.faddr 0 (.tmp 48)))⟩
  (.seq ⟨some 50, none, (.ofA (.load none (.tmp 49)))⟩
  (.seq ⟨some 51, none, (.ofA (.mv (.tmp 8)))⟩
  (.seq ⟨some 52, none, (.ofA (.slc 1 (.tmp 50) (some (.tmp 51)) none))⟩
  (.seq ⟨some 53, none, (.ofA (.nilc (.tmp 46)))⟩
  (.seq ⟨some 54, none, (.ofA (.faddr 0 (.tmp 53)))⟩
  (.seq ⟨none, none, (.store 1 (.tmp 54) (.tmp 52))⟩
  .done)))))))))))))))))
def r50 : List XR := []
theorem fn50 : FnX Try.prog 50 [47, 50, 51, 52, 54, 56, 95, 97, 98, 99, 100, 101, 125, 126, 180] 55 x50 r50 := ⟨_, Try.func50, by kernel_rfl, by kernel_rfl, by kernel_rfl, by kernel_rfl⟩
-- almshouse/image.Parse$1 (1 parameters)
def x51 : XC := (.tree (.seq ⟨some 3, none, (.ofA (.mv (.tmp 0)))⟩
  (.seq ⟨some 4, none, (.call (.cst (.fn 52 [])) [(.tmp 3), (.cst (.v (.int .i64 1)))])⟩
  (.seq ⟨some 5, none, (.ofA (.mv (.tmp 0)))⟩
  (.seq ⟨some 6, none, (.call (.cst (.fn 52 [])) [(.tmp 5), (.cst (.v (.int .i64 1)))])⟩
  (.seq ⟨some 7, none, (.ofA (.mv (.tmp 0)))⟩
  (.seq ⟨some 8, none, (.call (.cst (.fn 52 [])) [(.tmp 7), (.cst (.v (.int .i64 1)))])⟩
  (.seq ⟨some 9, none, (.ofA (.mv (.tmp 0)))⟩
  (.seq ⟨some 10, none, (.call (.cst (.fn 52 [])) [(.tmp 9), (.cst (.v (.int .i64 1)))])⟩
  (.seq ⟨some 11, none, (.build [(.v (.int .i64 0)), (.v (.int .i64 0)), (.v (.int .i64 0)), (.v (.int .i64 0))] [(0, 1, (.tmp 4)), (1, 1, (.tmp 6)), (2, 1, (.tmp 8)), (3, 1, (.tmp 10))])⟩
  (.seq ⟨some 12, none, (.ofA (.faddr 0 (.tmp 1)))⟩
  (.seq ⟨none, none, (.store 4 (.tmp 12) (.tmp 11))⟩
  .done))))))))))))
def r51 : List XR := []
theorem fn51 : FnX Try.prog 51 [47, 50, 51, 52, 54, 56, 95, 97, 98, 99, 100, 101, 125, 126, 180] 13 x51 r51 := ⟨_, Try.func51, by kernel_rfl, by kernel_rfl, by kernel_rfl, by kernel_rfl⟩
-- (*almshouse/word.Reader).Number (2 parameters)
def x52 : XC := (.seq (.tree (.seq ⟨some 4, none, (.ofA (.mv (.cst (.v (.int .i64 0)))))⟩
  .done))
 (.seq (.seq (.tree (.seq ⟨some 8, none, (.ofA (.mv (.tmp 0)))⟩
  (.seq ⟨some 9, none, (.ofA (.eqn false 1 (.tmp 8) (.cst (.v (.pointer none)))))⟩
  (.seq ⟨some 10, none, (.ofA (.mv (.tmp 9)))⟩
  (.seq ⟨some 11, some (10, false), (.ofA (.mv (.tmp 1)))⟩
  (.seq ⟨some 12, some (10, false), (.call (.cst (.fn 96 [])) [(.tmp 11)])⟩
  (.seq ⟨some 13, some (10, false), (.ofA (.un .not (.tmp 12)))⟩
  (.seq ⟨some 14, some (10, false), (.ofA (.mv (.tmp 13)))⟩
  (.seq ⟨some 15, some (14, true), (.ofA (.mv (.tmp 0)))⟩
  (.seq ⟨some 16, some (14, true), (.call (.cst (.fn 97 [])) [(.tmp 15), (.cst (.v (.int .i64 1)))])⟩
  (.seq ⟨some 17, some (10, false), (.ofA (.pick (.tmp 14) (.tmp 16) (.cst (.v (.bool false)))))⟩
  (.seq ⟨some 18, none, (.ofA (.pick (.tmp 10) (.cst (.v (.bool true))) (.tmp 17)))⟩
  .done))))))))))))
 (.cond (.tmp 18)
 (.seq (.tree (.seq ⟨some 4, none, (.ofA (.mv (.cst (.v (.int .i64 0)))))⟩
  .done))
 .ret)
 .skip))
 (.seq (.tree (.seq ⟨some 5, none, (.ofA (.mv (.cst (.v (.int .i64 0)))))⟩
  .done))
 (.seq (.seq (.tree (.seq ⟨some 19, none, (.ofA (.mv (.tmp 0)))⟩
  (.seq ⟨some 20, none, (.ofA (.mv (.tmp 1)))⟩
  (.seq ⟨some 21, none, (.call (.cst (.fn 98 [])) [(.tmp 19), (.tmp 20)])⟩
  (.seq ⟨some 22, none, (.ofA (.len (.tmp 21)))⟩
  (.seq ⟨some 23, none, (.ofA (.mv (.cst (.v (.int .i64 0)))))⟩
  .done))))))
 (.block 0 (.loop (.seq (.tree (.seq ⟨some 24, none, (.ofA (.bin .lss (.tmp 23) (.tmp 22)))⟩
  .done))
 (.seq (.cond (.tmp 24)
 .skip
 (.exit 0))
 (.seq (.block 1 (.seq (.tree (.seq ⟨some 25, none, (.ofA (.mv (.tmp 23)))⟩
  (.seq ⟨some 26, none, (.ofA (.isl 1 (.tmp 21) (.tmp 23)))⟩
  (.seq ⟨some 27, none, (.ofA (.load none (.tmp 26)))⟩
  (.seq ⟨some 6, none, (.ofA (.mv (.tmp 25)))⟩
  (.seq ⟨some 7, none, (.ofA (.mv (.tmp 27)))⟩
  .done))))))
 (.tree (.seq ⟨some 28, none, (.ofA (.mv (.tmp 5)))⟩
  (.seq ⟨some 29, none, (.ofA (.mv (.tmp 7)))⟩
  (.seq ⟨some 30, none, (.ofA (.conv .i64 (.tmp 29)))⟩
  (.seq ⟨some 31, none, (.ofA (.mv (.tmp 6)))⟩
  (.seq ⟨some 32, none, (.ofA (.bin .mul (.cst (.v (.int .i64 8))) (.tmp 31)))⟩
  (.seq ⟨some 33, none, (.ofA (.conv .u64 (.tmp 32)))⟩
  (.seq ⟨some 34, none, (.ofA (.bin .shl (.tmp 30) (.tmp 33)))⟩
  (.seq ⟨some 35, none, (.ofA (.bin .or (.tmp 28) (.tmp 34)))⟩
  (.seq ⟨some 5, none, (.ofA (.mv (.tmp 35)))⟩
  .done))))))))))))
 (.tree (.seq ⟨some 36, none, (.ofA (.bin .add (.tmp 23) (.cst (.v (.int .i64 1)))))⟩
  (.seq ⟨some 23, none, (.ofA (.mv (.tmp 36)))⟩
  .done)))))))))
 (.seq (.tree (.seq ⟨some 37, none, (.ofA (.mv (.tmp 5)))⟩
  (.seq ⟨some 4, none, (.ofA (.mv (.tmp 37)))⟩
  .done)))
 .ret)))))
def r52 : List XR := [.tmp 4]
theorem fn52 : FnX Try.prog 52 [47, 50, 51, 52, 54, 56, 95, 97, 98, 99, 100, 101, 125, 126, 180] 38 x52 r52 := ⟨_, Try.func52, by kernel_rfl, by kernel_rfl, by kernel_rfl, by kernel_rfl⟩
-- almshouse/geom.Check (1 parameters)
def x53 : XC := (.seq (.tree (.seq ⟨some 1, none, (.box (.tmp 0))⟩
  (.seq ⟨some 2, none, (.ofA (.mv (.cst (.v (.int .i64 0)))))⟩
  .done)))
 (.seq (.tree (.seq ⟨some 6, none, (.ofA (.faddr 0 (.tmp 1)))⟩
  (.seq ⟨some 7, none, (.ofA (.load none (.tmp 6)))⟩
  (.seq ⟨some 8, none, (.ofA (.faddr 1 (.tmp 1)))⟩
  (.seq ⟨some 9, none, (.ofA (.load none (.tmp 8)))⟩
  (.seq ⟨some 10, none, (.ofA (.faddr 2 (.tmp 1)))⟩
  (.seq ⟨some 11, none, (.ofA (.load none (.tmp 10)))⟩
  (.seq ⟨some 12, none, (.ofA (.mx false (.tmp 7) [(.tmp 9), (.tmp 11)]))⟩
  (.seq ⟨some 3, none, (.ofA (.mv (.tmp 12)))⟩
  .done)))))))))
 (.seq (.tree (.seq ⟨some 13, none, (.ofA (.faddr 0 (.tmp 1)))⟩
  (.seq ⟨some 14, none, (.ofA (.load none (.tmp 13)))⟩
  (.seq ⟨some 15, none, (.ofA (.faddr 1 (.tmp 1)))⟩
  (.seq ⟨some 16, none, (.ofA (.load none (.tmp 15)))⟩
  (.seq ⟨some 17, none, (.ofA (.faddr 2 (.tmp 1)))⟩
  (.seq ⟨some 18, none, (.ofA (.load none (.tmp 17)))⟩
  (.seq ⟨some 19, none, (.ofA (.mx true (.tmp 14) [(.tmp 16), (.tmp 18)]))⟩
  (.seq ⟨some 4, none, (.ofA (.mv (.tmp 19)))⟩
  .done)))))))))
 (.seq (.block 0 (.seq (.tree (.seq ⟨some 21, none, (.ofA (.mv (.tmp 3)))⟩
  (.seq ⟨some 22, none, (.ofA (.bin .lss (.tmp 21) (.cst (.v (.int .i64 1)))))⟩
  (.seq ⟨some 23, none, (.ofA (.mv (.tmp 22)))⟩
  (.seq ⟨some 24, some (23, false), (.ofA (.faddr 3 (.tmp 1)))⟩
  (.seq ⟨some 25, some (23, false), (.ofA (.load none (.tmp 24)))⟩
  (.seq ⟨some 26, some (23, false), (.ofA (.bin .lss (.tmp 25) (.cst (.v (.int .i64 2)))))⟩
  (.seq ⟨some 27, none, (.ofA (.pick (.tmp 23) (.cst (.v (.bool true))) (.tmp 26)))⟩
  (.seq ⟨some 20, none, (.ofA (.mv (.tmp 27)))⟩
  .done)))))))))
 (.cond (.tmp 20)
 (.seq (.tree (.seq ⟨some 2, none, (.ofA (.mv (.cst (.v (.int .i64 1)))))⟩
  .done))
 .ret)
 (.seq (.tree (.seq ⟨some 29, none, (.ofA (.mv (.tmp 4)))⟩
  (.seq ⟨some 30, none, (.ofA (.bin .gtr (.tmp 29) (.cst (.v (.int .i64 64)))))⟩
  (.seq ⟨some 31, none, (.ofA (.mv (.tmp 30)))⟩
  (.seq ⟨some 32, some (31, false), (.ofA (.faddr 3 (.tmp 1)))⟩
  (.seq ⟨some 33, some (31, false), (.ofA (.load none (.tmp 32)))⟩
  (.seq ⟨some 34, some (31, false), (.ofA (.bin .gtr (.tmp 33) (.cst (.v (.int .i64 16)))))⟩
  (.seq ⟨some 35, none, (.ofA (.pick (.tmp 31) (.cst (.v (.bool true))) (.tmp 34)))⟩
  (.seq ⟨some 28, none, (.ofA (.mv (.tmp 35)))⟩
  .done)))))))))
 (.cond (.tmp 28)
 (.seq (.tree (.seq ⟨some 2, none, (.ofA (.mv (.cst (.v (.int .i64 4)))))⟩
  .done))
 .ret)
 .skip)))))
 (.seq (.seq (.tree (.seq ⟨some 36, none, (.ofA (.faddr 0 (.tmp 1)))⟩
  (.seq ⟨some 37, none, (.ofA (.load none (.tmp 36)))⟩
  (.seq ⟨some 38, none, (.ofA (.faddr 1 (.tmp 1)))⟩
  (.seq ⟨some 39, none, (.ofA (.load none (.tmp 38)))⟩
  (.seq ⟨some 40, none, (.ofA (.bin .mul (.tmp 37) (.tmp 39)))⟩
  (.seq ⟨some 41, none, (.ofA (.faddr 2 (.tmp 1)))⟩
  (.seq ⟨some 42, none, (.ofA (.load none (.tmp 41)))⟩
  (.seq ⟨some 43, none, (.ofA (.bin .mul (.tmp 40) (.tmp 42)))⟩
  (.seq ⟨some 5, none, (.ofA (.mv (.tmp 43)))⟩
  .done))))))))))
 (.block 1 (.seq (.tree (.seq ⟨some 45, none, (.ofA (.mv (.tmp 5)))⟩
  (.seq ⟨some 46, none, (.ofA (.bin .leq (.tmp 45) (.cst (.v (.int .i64 2)))))⟩
  (.seq ⟨some 44, none, (.ofA (.mv (.tmp 46)))⟩
  .done))))
 (.cond (.tmp 44)
 (.seq (.tree (.seq ⟨some 2, none, (.ofA (.mv (.cst (.v (.int .i64 1)))))⟩
  .done))
 .ret)
 (.seq (.tree (.seq ⟨some 48, none, (.ofA (.mv (.tmp 5)))⟩
  (.seq ⟨some 49, none, (.ofA (.bin .gtr (.tmp 48) (.cst (.v (.int .i64 64)))))⟩
  (.seq ⟨some 47, none, (.ofA (.mv (.tmp 49)))⟩
  .done))))
 (.cond (.tmp 47)
 (.seq (.tree (.seq ⟨some 2, none, (.ofA (.mv (.cst (.v (.int .i64 4)))))⟩
  .done))
 .ret)
 .skip))))))
 (.seq (.tree (.seq ⟨some 2, none, (.ofA (.mv (.cst (.v (.int .i64 0)))))⟩
  .done))
 .ret))))))
def r53 : List XR := [.tmp 2]
theorem fn53 : FnX Try.prog 53 [47, 50, 51, 52, 54, 56, 95, 97, 98, 99, 100, 101, 125, 126, 180] 50 x53 r53 := ⟨_, Try.func53, by kernel_rfl, by kernel_rfl, by kernel_rfl, by kernel_rfl⟩
-- (*almshouse/image.reader).fail (2 parameters)
def x54 : XC := (.seq (.tree (.seq ⟨some 4, none, (.ofA (.mv (.tmp 0)))⟩
  (.seq ⟨some 5, none, (.ofA (.nilc (.tmp 4)))⟩
  (.seq ⟨some 6, none, (.ofA (.faddr 1 (.tmp 5)))⟩
  (.seq ⟨some 7, none, (.ofA (.load none (.tmp 6)))⟩
  (.seq ⟨some 8, none, (.ofA (.bin .eql (.tmp 7) (.cst (.v (.int .i64 0)))))⟩
  .done))))))
 (.cond (.tmp 8)
 (.tree (.seq ⟨some 9, none, (.ofA (.mv (.tmp 0)))⟩
  (.seq ⟨some 10, none, (.ofA (.mv (.tmp 1)))⟩
  (.seq ⟨some 11, none, (.ofA (.nilc (.tmp 9)))⟩
  (.seq ⟨some 12, none, (.ofA (.faddr 1 (.tmp 11)))⟩
  (.seq ⟨none, none, (.store 1 (.tmp 12) (.tmp 10))⟩
  .done))))))
 .skip))
def r54 : List XR := []
theorem fn54 : FnX Try.prog 54 [47, 50, 51, 52, 54, 56, 95, 97, 98, 99, 100, 101, 125, 126, 180] 13 x54 r54 := ⟨_, Try.func54, by kernel_rfl, by kernel_rfl, by kernel_rfl, by kernel_rfl⟩
-- almshouse/geom.Blocks (1 parameters)
def x55 : XC := (.seq (.tree (.seq ⟨some 1, none, (.box (.tmp 0))⟩
  (.seq ⟨some 2, none, (.ofA (.mv (.cst (.v (.int .i64 0)))))⟩
  .done)))
 (.seq (.seq (.tree (.seq ⟨some 3, none, (.ofA (.load (some 4) (.tmp 1)))⟩
  (.seq ⟨some 4, none, (.call (.cst (.fn 53 [])) [(.tmp 3)])⟩
  (.seq ⟨some 5, none, (.ofA (.bin .neq (.tmp 4) (.cst (.v (.int .i64 0)))))⟩
  .done))))
 (.cond (.tmp 5)
 (.seq (.tree (.seq ⟨some 2, none, (.ofA (.mv (.cst (.v (.int .i64 0)))))⟩
  .done))
 .ret)
 .skip))
 (.seq (.tree (.seq ⟨some 6, none, (.ofA (.faddr 0 (.tmp 1)))⟩
  (.seq ⟨some 7, none, (.ofA (.load none (.tmp 6)))⟩
  (.seq ⟨some 8, none, (.ofA (.faddr 1 (.tmp 1)))⟩
  (.seq ⟨some 9, none, (.ofA (.load none (.tmp 8)))⟩
  (.seq ⟨some 10, none, (.ofA (.bin .mul (.tmp 7) (.tmp 9)))⟩
  (.seq ⟨some 11, none, (.ofA (.faddr 2 (.tmp 1)))⟩
  (.seq ⟨some 12, none, (.ofA (.load none (.tmp 11)))⟩
  (.seq ⟨some 13, none, (.ofA (.bin .mul (.tmp 10) (.tmp 12)))⟩
  (.seq ⟨some 2, none, (.ofA (.mv (.tmp 13)))⟩
  .done))))))))))
 .ret)))
def r55 : List XR := [.tmp 2]
theorem fn55 : FnX Try.prog 55 [47, 50, 51, 52, 54, 56, 95, 97, 98, 99, 100, 101, 125, 126, 180] 14 x55 r55 := ⟨_, Try.func55, by kernel_rfl, by kernel_rfl, by kernel_rfl, by kernel_rfl⟩
-- (*almshouse/image.reader).block (1 parameters)
def x56 : XC := (.seq (.tree (.seq ⟨some 2, none, (.alloc [(.v (.bool false)), (.v (.int .i64 0)), (.v (.slice none 0 0))])⟩
  .done))
 (.seq (.tree (.seq ⟨some 3, none, (.alloc [(.v (.int .i64 0))])⟩
  (.seq ⟨none, none, (.store 1 (.tmp 3) (.cst (.v (.int .i64 0))))⟩
  .done)))
 (.seq (.tree (.seq ⟨some 4, none, (.ofA (.mv (.tmp 0)))⟩
  (.seq ⟨some 5, none, (.ofA (.mkfn 99 [(.tmp 2), (.tmp 3)]))⟩
  (.seq ⟨some 6, none, (.call (.cst (.fn 50 [])) [(.tmp 4), (.cst (.v (.int .i64 66))), (.tmp 5)])⟩
  .done))))
 (.seq (.seq (.tree (.seq ⟨some 7, none, (.ofA (.load none (.tmp 3)))⟩
  (.seq ⟨some 8, none, (.ofA (.mv (.cst (.v (.int .i64 0)))))⟩
  .done)))
 (.block 0 (.loop (.seq (.tree (.seq ⟨some 9, none, (.ofA (.bin .lss (.tmp 8) (.tmp 7)))⟩
  .done))
 (.seq (.cond (.tmp 9)
 .skip
 (.exit 0))
 (.seq (.block 1 (.seq (.tree (.seq ⟨some 10, none, (.ofA (.mv (.tmp 0)))⟩
  (.seq ⟨some 11, none, (.ofA (.nilc (.tmp 10)))⟩
  (.seq ⟨some 12, none, (.ofA (.faddr 1 (.tmp 11)))⟩
  (.seq ⟨some 13, none, (.ofA (.load none (.tmp 12)))⟩
  (.seq ⟨some 14, none, (.ofA (.bin .eql (.tmp 13) (.cst (.v (.int .i64 0)))))⟩
  .done))))))
 (.cond (.tmp 14)
 (.tree (.take ⟨some 15, none, (.ofA (.faddr 2 (.tmp 2)))⟩
  (.take ⟨some 17, none, (.ofA (.mv (.tmp 0)))⟩
  (.alt [true, false] [(⟨some 16, none, (.ofA (.load none (.tmp 15)))⟩,
 (.alt [false] [(⟨some 18, none, (.call (.cst (.fn 101 [])) [(.tmp 17)])⟩,
 (.alt [true] [(⟨some 19, none, (.buildSl 3 1 [(.v (.bool false)), (.v (.string ⟨#[]⟩)), (.v (.string ⟨#[]⟩))] [(0, 3, (.tmp 18))])⟩,
 (.alt [false] [(⟨some 20, none, (.app 3 40 (.tmp 16) (.tmp 19))⟩,
 (.take ⟨some 21, none, (.ofA (.faddr 2 (.tmp 2)))⟩
  (.alt [false] [(⟨none, none, (.store 1 (.tmp 21) (.tmp 20))⟩,
 .done)])))]))]))])), (⟨some 18, none, (.call (.cst (.fn 101 [])) [(.tmp 17)])⟩,
 (.take ⟨some 16, none, (.ofA (.load none (.tmp 15)))⟩
  (.alt [true] [(⟨some 19, none, (.buildSl 3 1 [(.v (.bool false)), (.v (.string ⟨#[]⟩)), (.v (.string ⟨#[]⟩))] [(0, 3, (.tmp 18))])⟩,
 (.alt [false] [(⟨some 20, none, (.app 3 40 (.tmp 16) (.tmp 19))⟩,
 (.take ⟨some 21, none, (.ofA (.faddr 2 (.tmp 2)))⟩
  (.alt [false] [(⟨none, none, (.store 1 (.tmp 21) (.tmp 20))⟩,
 .done)])))]))])))]))))
 .skip)))
 (.tree (.seq ⟨some 22, none, (.ofA (.bin .add (.tmp 8) (.cst (.v (.int .i64 1)))))⟩
  (.seq ⟨some 8, none, (.ofA (.mv (.tmp 22)))⟩
  .done)))))))))
 (.seq (.tree (.seq ⟨some 23, none, (.ofA (.load (some 3) (.tmp 2)))⟩
  (.seq ⟨none, none, (.store 3 (.tmp 2) (.tmp 23))⟩
  .done)))
 .ret)))))
def r56 : List XR := [.cell 2 (some 3)]
theorem fn56 : FnX Try.prog 56 [47, 50, 51, 52, 54, 56, 95, 97, 98, 99, 100, 101, 125, 126, 180] 24 x56 r56 := ⟨_, Try.func56, by kernel_rfl, by kernel_rfl, by kernel_rfl, by kernel_rfl⟩
-- slices.EqualFunc[[]almshouse/image.Block,[]almshouse/image.Block,almshouse/image.Block,almshouse/image.Block] (3 parameters)
def x61 : XC := (.seq (.tree (.seq ⟨some 6, none, (.ofA (.mv (.cst (.v (.bool false)))))⟩
  .done))
 (.seq (.seq (.tree (.seq ⟨some 10, none, (.ofA (.mv (.tmp 0)))⟩
  (.seq ⟨some 11, none, (.ofA (.len (.tmp 10)))⟩
  (.seq ⟨some 12, none, (.ofA (.mv (.tmp 1)))⟩
  (.seq ⟨some 13, none, (.ofA (.len (.tmp 12)))⟩
  (.seq ⟨some 14, none, (.ofA (.bin .neq (.tmp 11) (.tmp 13)))⟩
  .done))))))
 (.cond (.tmp 14)
 (.seq (.tree (.seq ⟨some 6, none, (.ofA (.mv (.cst (.v (.bool false)))))⟩
  .done))
 .ret)
 .skip))
 (.seq (.seq (.tree (.seq ⟨some 15, none, (.ofA (.mv (.tmp 0)))⟩
  (.seq ⟨some 16, none, (.ofA (.len (.tmp 15)))⟩
  (.seq ⟨some 17, none, (.ofA (.mv (.cst (.v (.int .i64 0)))))⟩
  .done))))
 (.block 0 (.loop (.seq (.tree (.seq ⟨some 18, none, (.ofA (.bin .lss (.tmp 17) (.tmp 16)))⟩
  .done))
 (.seq (.cond (.tmp 18)
 .skip
 (.exit 0))
 (.seq (.block 1 (.seq (.tree (.seq ⟨some 19, none, (.ofA (.mv (.tmp 17)))⟩
  (.seq ⟨some 20, none, (.ofA (.isl 3 (.tmp 15) (.tmp 17)))⟩
  (.seq ⟨some 21, none, (.ofA (.load (some 3) (.tmp 20)))⟩
  (.seq ⟨some 8, none, (.alloc [(.v (.bool false)), (.v (.int .i64 0)), (.v (.slice none 0 0))])⟩
  (.seq ⟨some 7, none, (.ofA (.mv (.tmp 19)))⟩
  (.seq ⟨none, none, (.store 3 (.tmp 8) (.tmp 21))⟩
  .done)))))))
 (.seq (.tree (.seq ⟨some 22, none, (.ofA (.mv (.tmp 1)))⟩
  (.seq ⟨some 23, none, (.ofA (.mv (.tmp 7)))⟩
  (.seq ⟨some 24, none, (.ofA (.isl 3 (.tmp 22) (.tmp 23)))⟩
  (.seq ⟨some 25, none, (.ofA (.load (some 3) (.tmp 24)))⟩
  (.seq ⟨some 9, none, (.alloc [(.v (.bool false)), (.v (.int .i64 0)), (.v (.slice none 0 0))])⟩
  (.seq ⟨none, none, (.store 3 (.tmp 9) (.tmp 25))⟩
  .done)))))))
 (.seq (.tree (.seq ⟨some 26, none, (.ofA (.mv (.tmp 2)))⟩
  (.seq ⟨some 27, none, (.ofA (.load (some 3) (.tmp 8)))⟩
  (.seq ⟨some 28, none, (.ofA (.load (some 3) (.tmp 9)))⟩
  (.seq ⟨some 29, none, (.call (.tmp 26) [(.tmp 27), (.tmp 28)])⟩
  (.seq ⟨some 30, none, (.ofA (.un .not (.tmp 29)))⟩
  .done))))))
 (.cond (.tmp 30)
 (.seq (.tree (.seq ⟨some 6, none, (.ofA (.mv (.cst (.v (.bool false)))))⟩
  .done))
 .ret)
 .skip)))))
 (.tree (.seq ⟨some 31, none, (.ofA (.bin .add (.tmp 17) (.cst (.v (.int .i64 1)))))⟩
  (.seq ⟨some 17, none, (.ofA (.mv (.tmp 31)))⟩
  .done)))))))))
 (.seq (.tree (.seq ⟨some 6, none, (.ofA (.mv (.cst (.v (.bool true)))))⟩
  .done))
 .ret))))
def r61 : List XR := [.tmp 6]
theorem fn61 : FnX Try.prog 61 [47, 50, 51, 52, 54, 56, 95, 97, 98, 99, 100, 101, 125, 126, 180] 32 x61 r61 := ⟨_, Try.func61, by kernel_rfl, by kernel_rfl, by kernel_rfl, by kernel_rfl⟩
-- almshouse/image.same (2 parameters)
def x62 : XC := (.seq (.tree (.seq ⟨some 2, none, (.box (.tmp 0))⟩
  (.seq ⟨some 3, none, (.box (.tmp 1))⟩
  (.seq ⟨some 4, none, (.ofA (.mv (.cst (.v (.bool false)))))⟩
  .done))))
 (.seq (.tree (.seq ⟨some 5, none, (.ofA (.faddr 0 (.tmp 2)))⟩
  (.seq ⟨some 6, none, (.ofA (.load none (.tmp 5)))⟩
  (.seq ⟨some 7, none, (.ofA (.faddr 0 (.tmp 3)))⟩
  (.seq ⟨some 8, none, (.ofA (.load none (.tmp 7)))⟩
  (.seq ⟨some 9, none, (.ofA (.eqb false (.tmp 6) (.tmp 8)))⟩
  (.seq ⟨some 10, none, (.ofA (.mv (.tmp 9)))⟩
  (.seq ⟨some 11, some (10, true), (.ofA (.faddr 1 (.tmp 2)))⟩
  (.seq ⟨some 12, some (10, true), (.ofA (.load none (.tmp 11)))⟩
  (.seq ⟨some 13, some (10, true), (.ofA (.faddr 1 (.tmp 3)))⟩
  (.seq ⟨some 14, some (10, true), (.ofA (.load none (.tmp 13)))⟩
  (.seq ⟨some 15, some (10, true), (.ofA (.bin .eql (.tmp 12) (.tmp 14)))⟩
  (.seq ⟨some 16, none, (.ofA (.pick (.tmp 10) (.tmp 15) (.cst (.v (.bool false)))))⟩
  (.seq ⟨some 17, none, (.ofA (.mv (.tmp 16)))⟩
  (.seq ⟨some 18, some (17, true), (.ofA (.faddr 2 (.tmp 2)))⟩
  (.seq ⟨some 19, some (17, true), (.ofA (.load none (.tmp 18)))⟩
  (.seq ⟨some 20, some (17, true), (.ofA (.faddr 2 (.tmp 3)))⟩
  (.seq ⟨some 21, some (17, true), (.ofA (.load none (.tmp 20)))⟩
  (.seq ⟨some 22, some (17, true), (.call (.cst (.fn 104 [])) [(.tmp 19), (.tmp 21)])⟩
  (.seq ⟨some 23, none, (.ofA (.pick (.tmp 17) (.tmp 22) (.cst (.v (.bool false)))))⟩
  (.seq ⟨some 4, none, (.ofA (.mv (.tmp 23)))⟩
  .done)))))))))))))))))))))
 .ret))
def r62 : List XR := [.tmp 4]
theorem fn62 : FnX Try.prog 62 [47, 50, 51, 52, 54, 56, 95, 97, 98, 99, 100, 101, 125, 126, 180] 24 x62 r62 := ⟨_, Try.func62, by kernel_rfl, by kernel_rfl, by kernel_rfl, by kernel_rfl⟩
-- (*almshouse/nand.Nand).Geometry (1 parameters)
def x80 : XC := (.seq (.tree (.seq ⟨some 2, none, (.alloc [(.v (.int .i64 0)), (.v (.int .i64 0)), (.v (.int .i64 0)), (.v (.int .i64 0))])⟩
  .done))
 (.seq (.seq (.tree (.seq ⟨some 3, none, (.ofA (.mv (.tmp 0)))⟩
  (.seq ⟨some 4, none, (.ofA (.eqn false 1 (.tmp 3) (.cst (.v (.pointer none)))))⟩
  .done)))
 (.cond (.tmp 4)
 (.seq (.tree (.seq ⟨some 5, none, (.build [(.v (.int .i64 0)), (.v (.int .i64 0)), (.v (.int .i64 0)), (.v (.int .i64 0))] [])⟩
  (.seq ⟨none, none, (.store 4 (.tmp 2) (.tmp 5))⟩
  .done)))
 .ret)
 .skip))
 (.seq (.tree (.seq ⟨some 6, none, (.ofA (.mv (.tmp 0)))⟩
  (.seq ⟨some 7, none, (.ofA (.nilc (.tmp 6)))⟩
  (.seq ⟨some 8, none, (.ofA (.faddr 0 (.tmp 7)))⟩
  (.seq ⟨some 9, none, (.ofA (.load (some 4) (.tmp 8)))⟩
  (.seq ⟨none, none, (.store 4 (.tmp 2) (.tmp 9))⟩
  .done))))))
 .ret)))
def r80 : List XR := [.cell 2 (some 4)]
theorem fn80 : FnX Try.prog 80 [47, 50, 51, 52, 54, 56, 95, 97, 98, 99, 100, 101, 125, 126, 180] 10 x80 r80 := ⟨_, Try.func80, by kernel_rfl, by kernel_rfl, by kernel_rfl, by kernel_rfl⟩
-- (*almshouse/nand.Nand).Blocks (1 parameters)
def x81 : XC := (.seq (.tree (.seq ⟨some 2, none, (.ofA (.mv (.cst (.v (.int .i64 0)))))⟩
  .done))
 (.seq (.seq (.tree (.seq ⟨some 3, none, (.ofA (.mv (.tmp 0)))⟩
  (.seq ⟨some 4, none, (.ofA (.eqn false 1 (.tmp 3) (.cst (.v (.pointer none)))))⟩
  .done)))
 (.cond (.tmp 4)
 (.seq (.tree (.seq ⟨some 2, none, (.ofA (.mv (.cst (.v (.int .i64 0)))))⟩
  .done))
 .ret)
 .skip))
 (.seq (.tree (.seq ⟨some 5, none, (.ofA (.mv (.tmp 0)))⟩
  (.seq ⟨some 6, none, (.ofA (.nilc (.tmp 5)))⟩
  (.seq ⟨some 7, none, (.ofA (.faddr 6 (.tmp 6)))⟩
  (.seq ⟨some 8, none, (.ofA (.load none (.tmp 7)))⟩
  (.seq ⟨some 9, none, (.ofA (.len (.tmp 8)))⟩
  (.seq ⟨some 2, none, (.ofA (.mv (.tmp 9)))⟩
  .done)))))))
 .ret)))
def r81 : List XR := [.tmp 2]
theorem fn81 : FnX Try.prog 81 [47, 50, 51, 52, 54, 56, 95, 97, 98, 99, 100, 101, 125, 126, 180] 10 x81 r81 := ⟨_, Try.func81, by kernel_rfl, by kernel_rfl, by kernel_rfl, by kernel_rfl⟩
-- slices.ContainsFunc[[]almshouse/image.Page,almshouse/image.Page] (2 parameters)
def x86 : XC := (.seq (.tree (.seq ⟨some 4, none, (.ofA (.mv (.cst (.v (.bool false)))))⟩
  .done))
 (.seq (.tree (.seq ⟨some 5, none, (.ofA (.mv (.tmp 0)))⟩
  (.seq ⟨some 6, none, (.ofA (.mv (.tmp 1)))⟩
  (.seq ⟨some 7, none, (.call (.cst (.fn 122 [])) [(.tmp 5), (.tmp 6)])⟩
  (.seq ⟨some 8, none, (.ofA (.bin .geq (.tmp 7) (.cst (.v (.int .i64 0)))))⟩
  (.seq ⟨some 4, none, (.ofA (.mv (.tmp 8)))⟩
  .done))))))
 .ret))
def r86 : List XR := [.tmp 4]
theorem fn86 : FnX Try.prog 86 [47, 50, 51, 52, 54, 56, 95, 97, 98, 99, 100, 101, 125, 126, 180] 9 x86 r86 := ⟨_, Try.func86, by kernel_rfl, by kernel_rfl, by kernel_rfl, by kernel_rfl⟩
-- (almshouse/image.Picture).may$1 (1 parameters)
def x87 : XC := (.seq (.tree (.seq ⟨some 1, none, (.box (.tmp 0))⟩
  (.seq ⟨some 2, none, (.ofA (.mv (.cst (.v (.bool false)))))⟩
  .done)))
 (.seq (.tree (.seq ⟨some 3, none, (.ofA (.load (some 3) (.tmp 1)))⟩
  (.seq ⟨some 4, none, (.call (.cst (.fn 88 [])) [(.tmp 3)])⟩
  (.seq ⟨some 5, none, (.ofA (.un .not (.tmp 4)))⟩
  (.seq ⟨some 2, none, (.ofA (.mv (.tmp 5)))⟩
  .done)))))
 .ret))
def r87 : List XR := [.tmp 2]
theorem fn87 : FnX Try.prog 87 [47, 50, 51, 52, 54, 56, 95, 97, 98, 99, 100, 101, 125, 126, 180] 6 x87 r87 := ⟨_, Try.func87, by kernel_rfl, by kernel_rfl, by kernel_rfl, by kernel_rfl⟩
-- (almshouse/image.Page).may (1 parameters)
def x88 : XC := (.seq (.tree (.seq ⟨some 1, none, (.box (.tmp 0))⟩
  (.seq ⟨some 2, none, (.ofA (.mv (.cst (.v (.bool false)))))⟩
  .done)))
 (.seq (.seq (.tree (.seq ⟨some 3, none, (.ofA (.faddr 0 (.tmp 1)))⟩
  (.seq ⟨some 4, none, (.ofA (.load none (.tmp 3)))⟩
  .done)))
 (.cond (.tmp 4)
 (.seq (.tree (.seq ⟨some 5, none, (.ofA (.load (some 3) (.tmp 1)))⟩
  (.seq ⟨some 6, none, (.build [(.v (.bool false)), (.v (.string ⟨#[]⟩)), (.v (.string ⟨#[]⟩))] [(0, 1, (.cst (.v (.bool true))))])⟩
  (.seq ⟨some 7, none, (.ofA (.eqs false [.bool, .str, .str] (.tmp 5) (.tmp 6)))⟩
  (.seq ⟨some 2, none, (.ofA (.mv (.tmp 7)))⟩
  .done)))))
 .ret)
 .skip))
 (.seq (.tree (.seq ⟨some 8, none, (.ofA (.faddr 1 (.tmp 1)))⟩
  (.seq ⟨some 9, none, (.ofA (.load none (.tmp 8)))⟩
  (.seq ⟨some 10, none, (.ofA (.lens (.tmp 9)))⟩
  (.seq ⟨some 11, none, (.ofA (.bin .leq (.tmp 10) (.cst (.v (.int .i64 32)))))⟩
  (.seq ⟨some 12, none, (.ofA (.mv (.tmp 11)))⟩
  (.seq ⟨some 13, some (12, true), (.ofA (.faddr 2 (.tmp 1)))⟩
  (.seq ⟨some 14, some (12, true), (.ofA (.load none (.tmp 13)))⟩
  (.seq ⟨some 15, some (12, true), (.ofA (.lens (.tmp 14)))⟩
  (.seq ⟨some 16, some (12, true), (.ofA (.bin .leq (.tmp 15) (.cst (.v (.int .i64 160)))))⟩
  (.seq ⟨some 17, none, (.ofA (.pick (.tmp 12) (.tmp 16) (.cst (.v (.bool false)))))⟩
  (.seq ⟨some 2, none, (.ofA (.mv (.tmp 17)))⟩
  .done))))))))))))
 .ret)))
def r88 : List XR := [.tmp 2]
theorem fn88 : FnX Try.prog 88 [47, 50, 51, 52, 54, 56, 95, 97, 98, 99, 100, 101, 125, 126, 180] 18 x88 r88 := ⟨_, Try.func88, by kernel_rfl, by kernel_rfl, by kernel_rfl, by kernel_rfl⟩
-- slices.Clip[[]byte,byte] (1 parameters)
def x89 : XC := (.seq (.tree (.seq ⟨some 2, none, (.ofA (.mv (.cst (.v (.slice none 0 0)))))⟩
  .done))
 (.seq (.tree (.seq ⟨some 3, none, (.ofA (.mv (.tmp 0)))⟩
  (.seq ⟨some 4, none, (.ofA (.mv (.tmp 0)))⟩
  (.seq ⟨some 5, none, (.ofA (.len (.tmp 4)))⟩
  (.seq ⟨some 6, none, (.ofA (.mv (.tmp 0)))⟩
  (.seq ⟨some 7, none, (.ofA (.len (.tmp 6)))⟩
  (.seq ⟨some 8, none, (.ofA (.slc3 1 (.tmp 3) none (.tmp 5) (.tmp 7)))⟩
  (.seq ⟨some 2, none, (.ofA (.mv (.tmp 8)))⟩
  .done))))))))
 .ret))
def r89 : List XR := [.tmp 2]
theorem fn89 : FnX Try.prog 89 [47, 50, 51, 52, 54, 56, 95, 97, 98, 99, 100, 101, 125, 126, 180] 9 x89 r89 := ⟨_, Try.func89, by kernel_rfl, by kernel_rfl, by kernel_rfl, by kernel_rfl⟩
-- slices.Clone[[]byte,byte] (1 parameters)
def x90 : XC := (.seq (.tree (.seq ⟨some 2, none, (.ofA (.mv (.cst (.v (.slice none 0 0)))))⟩
  .done))
 (.seq (.seq (.tree (.seq ⟨some 3, none, (.ofA (.mv (.tmp 0)))⟩
  (.seq ⟨some 4, none, (.ofA (.eqn false 2 (.tmp 3) (.cst (.v (.slice none 0 0)))))⟩
  .done)))
 (.cond (.tmp 4)
 (.seq (.tree (.seq ⟨some 2, none, (.ofA (.mv (.cst (.v (.slice none 0 0)))))⟩
  .done))
 .ret)
 .skip))
 (.seq (.tree (.seq ⟨some 5, none, (.buildSl 1 0 [] [])⟩
  (.seq ⟨some 6, none, (.ofA (.mv (.tmp 0)))⟩
  (.seq ⟨some 7, none, (.app 1 1 (.tmp 5) (.tmp 6))⟩
  (.seq ⟨some 2, none, (.ofA (.mv (.tmp 7)))⟩
  .done)))))
 .ret)))
def r90 : List XR := [.tmp 2]
theorem fn90 : FnX Try.prog 90 [47, 50, 51, 52, 54, 56, 95, 97, 98, 99, 100, 101, 125, 126, 180] 8 x90 r90 := ⟨_, Try.func90, by kernel_rfl, by kernel_rfl, by kernel_rfl, by kernel_rfl⟩
-- almshouse/word.Fits (2 parameters)
def x91 : XC := (.seq (.tree (.seq ⟨some 4, none, (.ofA (.mv (.cst (.v (.bool false)))))⟩
  .done))
 (.seq (.tree (.seq ⟨some 5, none, (.ofA (.mv (.tmp 1)))⟩
  (.seq ⟨some 6, none, (.call (.cst (.fn 96 [])) [(.tmp 5)])⟩
  (.seq ⟨some 7, none, (.ofA (.mv (.tmp 6)))⟩
  (.seq ⟨some 8, some (7, true), (.ofA (.mv (.tmp 0)))⟩
  (.seq ⟨some 9, some (7, true), (.ofA (.mv (.tmp 1)))⟩
  (.seq ⟨some 10, some (7, true), (.ofA (.bin .mul (.cst (.v (.int .i64 8))) (.tmp 9)))⟩
  (.seq ⟨some 11, some (7, true), (.ofA (.conv .u64 (.tmp 10)))⟩
  (.seq ⟨some 12, some (7, true), (.ofA (.bin .shr (.tmp 8) (.tmp 11)))⟩
  (.seq ⟨some 13, some (7, true), (.ofA (.bin .eql (.tmp 12) (.cst (.v (.int .i64 0)))))⟩
  (.seq ⟨some 14, none, (.ofA (.pick (.tmp 7) (.tmp 13) (.cst (.v (.bool false)))))⟩
  (.seq ⟨some 4, none, (.ofA (.mv (.tmp 14)))⟩
  .done))))))))))))
 .ret))
def r91 : List XR := [.tmp 4]
theorem fn91 : FnX Try.prog 91 [47, 50, 51, 52, 54, 56, 95, 97, 98, 99, 100, 101, 125, 126, 180] 15 x91 r91 := ⟨_, Try.func91, by kernel_rfl, by kernel_rfl, by kernel_rfl, by kernel_rfl⟩
-- almshouse/frame.Make (2 parameters)
def x92 : XC := (.seq (.tree (.seq ⟨some 4, none, (.ofA (.mv (.cst (.v (.slice none 0 0)))))⟩
  (.seq ⟨some 5, none, (.ofA (.mv (.cst (.v (.int .i64 0)))))⟩
  .done)))
 (.seq (.block 0 (.seq (.tree (.seq ⟨some 8, none, (.ofA (.mv (.tmp 0)))⟩
  (.seq ⟨some 9, none, (.call (.cst (.fn 91 [])) [(.tmp 8), (.cst (.v (.int .i64 1)))])⟩
  (.seq ⟨some 10, none, (.ofA (.un .not (.tmp 9)))⟩
  (.seq ⟨some 7, none, (.ofA (.mv (.tmp 10)))⟩
  .done)))))
 (.cond (.tmp 7)
 (.seq (.tree (.seq ⟨some 4, none, (.ofA (.mv (.cst (.v (.slice none 0 0)))))⟩
  (.seq ⟨some 5, none, (.ofA (.mv (.cst (.v (.int .i64 1)))))⟩
  .done)))
 .ret)
 (.seq (.tree (.seq ⟨some 12, none, (.ofA (.mv (.tmp 1)))⟩
  (.seq ⟨some 13, none, (.ofA (.len (.tmp 12)))⟩
  (.seq ⟨some 14, none, (.ofA (.bin .gtr (.tmp 13) (.cst (.v (.int .i64 65535)))))⟩
  (.seq ⟨some 11, none, (.ofA (.mv (.tmp 14)))⟩
  .done)))))
 (.cond (.tmp 11)
 (.seq (.tree (.seq ⟨some 4, none, (.ofA (.mv (.cst (.v (.slice none 0 0)))))⟩
  (.seq ⟨some 5, none, (.ofA (.mv (.cst (.v (.int .i64 3)))))⟩
  .done)))
 .ret)
 .skip)))))
 (.seq (.tree (.seq ⟨some 15, none, (.ofA (.mv (.tmp 0)))⟩
  (.seq ⟨some 16, none, (.call (.cst (.fn 46 [])) [(.cst (.v (.slice none 0 0))), (.tmp 15), (.cst (.v (.int .i64 1)))])⟩
  (.seq ⟨some 17, none, (.ofA (.mv (.tmp 1)))⟩
  (.seq ⟨some 18, none, (.ofA (.len (.tmp 17)))⟩
  (.seq ⟨some 19, none, (.call (.cst (.fn 46 [])) [(.tmp 16), (.tmp 18), (.cst (.v (.int .i64 2)))])⟩
  (.seq ⟨some 20, none, (.ofA (.mv (.tmp 1)))⟩
  (.seq ⟨some 21, none, (.app 1 1 (.tmp 19) (.tmp 20))⟩
  (.seq ⟨some 6, none, (.ofA (.mv (.tmp 21)))⟩
  .done)))))))))
 (.seq (.tree (.seq ⟨some 22, none, (.ofA (.mv (.tmp 6)))⟩
  (.seq ⟨some 23, none, (.ofA (.mv (.tmp 6)))⟩
  (.seq ⟨some 24, none, (.call (.cst (.fn 123 [])) [(.tmp 23)])⟩
  (.seq ⟨some 25, none, (.ofA (.conv .i64 (.tmp 24)))⟩
  (.seq ⟨some 26, none, (.call (.cst (.fn 46 [])) [(.tmp 22), (.tmp 25), (.cst (.v (.int .i64 4)))])⟩
  (.seq ⟨some 4, none, (.ofA (.mv (.tmp 26)))⟩
  (.seq ⟨some 5, none, (.ofA (.mv (.cst (.v (.int .i64 0)))))⟩
  .done))))))))
 .ret))))
def r92 : List XR := [.tmp 4, .tmp 5]
theorem fn92 : FnX Try.prog 92 [47, 50, 51, 52, 54, 56, 95, 97, 98, 99, 100, 101, 125, 126, 180] 27 x92 r92 := ⟨_, Try.func92, by kernel_rfl, by kernel_rfl, by kernel_rfl, by kernel_rfl⟩
-- almshouse/frame.Open (1 parameters)
def x93 : XC := (.seq (.tree (.seq ⟨some 2, none, (.ofA (.mv (.cst (.v (.int .i64 0)))))⟩
  (.seq ⟨some 3, none, (.ofA (.mv (.cst (.v (.slice none 0 0)))))⟩
  (.seq ⟨some 4, none, (.ofA (.mv (.cst (.v (.int .i64 0)))))⟩
  (.seq ⟨some 5, none, (.ofA (.mv (.cst (.v (.int .i64 0)))))⟩
  .done)))))
 (.seq (.tree (.seq ⟨some 9, none, (.ofA (.mv (.tmp 0)))⟩
  (.seq ⟨some 10, none, (.call (.cst (.fn 94 [])) [(.tmp 9)])⟩
  (.seq ⟨some 6, none, (.ofA (.mv (.tmp 10)))⟩
  .done))))
 (.seq (.tree (.seq ⟨some 11, none, (.ofA (.mv (.tmp 6)))⟩
  (.seq ⟨some 12, none, (.call (.cst (.fn 52 [])) [(.tmp 11), (.cst (.v (.int .i64 1)))])⟩
  (.seq ⟨some 2, none, (.ofA (.mv (.tmp 12)))⟩
  .done))))
 (.seq (.tree (.seq ⟨some 13, none, (.ofA (.mv (.tmp 6)))⟩
  (.seq ⟨some 14, none, (.call (.cst (.fn 52 [])) [(.tmp 13), (.cst (.v (.int .i64 2)))])⟩
  (.seq ⟨some 7, none, (.ofA (.mv (.tmp 14)))⟩
  .done))))
 (.seq (.seq (.tree (.seq ⟨some 15, none, (.ofA (.mv (.tmp 6)))⟩
  (.seq ⟨some 16, none, (.call (.cst (.fn 124 [])) [(.tmp 15)])⟩
  (.seq ⟨some 17, none, (.ofA (.mv (.tmp 7)))⟩
  (.seq ⟨some 18, none, (.ofA (.bin .add (.tmp 17) (.cst (.v (.int .i64 4)))))⟩
  (.seq ⟨some 19, none, (.ofA (.bin .lss (.tmp 16) (.tmp 18)))⟩
  (.seq ⟨some 20, none, (.ofA (.mv (.tmp 19)))⟩
  (.seq ⟨some 21, some (20, false), (.ofA (.mv (.tmp 0)))⟩
  (.seq ⟨some 22, some (20, false), (.ofA (.len (.tmp 21)))⟩
  (.seq ⟨some 23, some (20, false), (.ofA (.bin .lss (.tmp 22) (.cst (.v (.int .i64 3)))))⟩
  (.seq ⟨some 24, none, (.ofA (.pick (.tmp 20) (.cst (.v (.bool true))) (.tmp 23)))⟩
  .done)))))))))))
 (.cond (.tmp 24)
 (.seq (.tree (.seq ⟨some 2, none, (.ofA (.mv (.cst (.v (.int .i64 0)))))⟩
  (.seq ⟨some 3, none, (.ofA (.mv (.cst (.v (.slice none 0 0)))))⟩
  (.seq ⟨some 4, none, (.ofA (.mv (.cst (.v (.int .i64 0)))))⟩
  (.seq ⟨some 5, none, (.ofA (.mv (.cst (.v (.int .i64 2)))))⟩
  .done)))))
 .ret)
 .skip))
 (.seq (.tree (.seq ⟨some 25, none, (.ofA (.mv (.tmp 7)))⟩
  (.seq ⟨some 26, none, (.ofA (.bin .add (.cst (.v (.int .i64 3))) (.tmp 25)))⟩
  (.seq ⟨some 8, none, (.ofA (.mv (.tmp 26)))⟩
  .done))))
 (.seq (.seq (.tree (.take ⟨some 27, none, (.ofA (.mv (.tmp 0)))⟩
  (.take ⟨some 28, none, (.ofA (.mv (.tmp 8)))⟩
  (.take ⟨some 29, none, (.ofA (.slc 1 (.tmp 27) (some (.tmp 28)) none))⟩
  (.take ⟨some 32, none, (.ofA (.mv (.tmp 0)))⟩
  (.take ⟨some 33, none, (.ofA (.mv (.tmp 8)))⟩
  (.take ⟨some 34, none, (.ofA (.slc 1 (.tmp 32) none (some (.tmp 33))))⟩
  (.alt [true] [(⟨some 30, none, (.call (.cst (.fn 94 [])) [(.tmp 29)])⟩,
 (.alt [false] [(⟨some 31, none, (.call (.cst (.fn 52 [])) [(.tmp 30), (.cst (.v (.int .i64 4)))])⟩,
 (.alt [true] [(⟨some 35, none, (.call (.cst (.fn 123 [])) [(.tmp 34)])⟩,
 (.take ⟨some 36, none, (.ofA (.conv .i64 (.tmp 35)))⟩
  (.take ⟨some 37, none, (.ofA (.bin .neq (.tmp 31) (.tmp 36)))⟩
  .done)))]))]))]))))))))
 (.cond (.tmp 37)
 (.seq (.tree (.seq ⟨some 2, none, (.ofA (.mv (.cst (.v (.int .i64 0)))))⟩
  (.seq ⟨some 3, none, (.ofA (.mv (.cst (.v (.slice none 0 0)))))⟩
  (.seq ⟨some 4, none, (.ofA (.mv (.cst (.v (.int .i64 0)))))⟩
  (.seq ⟨some 5, none, (.ofA (.mv (.cst (.v (.int .i64 14)))))⟩
  .done)))))
 .ret)
 .skip))
 (.seq (.tree (.seq ⟨some 38, none, (.ofA (.mv (.tmp 2)))⟩
  (.seq ⟨some 39, none, (.ofA (.mv (.tmp 0)))⟩
  (.seq ⟨some 40, none, (.ofA (.mv (.tmp 8)))⟩
  (.seq ⟨some 41, none, (.ofA (.slc 1 (.tmp 39) (some (.cst (.v (.int .i64 3)))) (some (.tmp 40))))⟩
  (.seq ⟨some 42, none, (.call (.cst (.fn 90 [])) [(.tmp 41)])⟩
  (.seq ⟨some 43, none, (.ofA (.mv (.tmp 8)))⟩
  (.seq ⟨some 44, none, (.ofA (.bin .add (.tmp 43) (.cst (.v (.int .i64 4)))))⟩
  (.seq ⟨some 2, none, (.ofA (.mv (.tmp 38)))⟩
  (.seq ⟨some 3, none, (.ofA (.mv (.tmp 42)))⟩
  (.seq ⟨some 4, none, (.ofA (.mv (.tmp 44)))⟩
  (.seq ⟨some 5, none, (.ofA (.mv (.cst (.v (.int .i64 0)))))⟩
  .done))))))))))))
 .ret))))))))
def r93 : List XR := [.tmp 2, .tmp 3, .tmp 4, .tmp 5]
theorem fn93 : FnX Try.prog 93 [47, 50, 51, 52, 54, 56, 95, 97, 98, 99, 100, 101, 125, 126, 180] 45 x93 r93 := ⟨_, Try.func93, by kernel_rfl, by kernel_rfl, by kernel_rfl, by kernel_rfl⟩
-- almshouse/word.Read (1 parameters)
def x94 : XC := (.seq (.tree (.seq ⟨some 2, none, (.ofA (.mv (.cst (.v (.pointer none)))))⟩
  .done))
 (.seq (.tree (.seq ⟨some 3, none, (.ofA (.mv (.tmp 0)))⟩
  (.seq ⟨some 4, none, (.call (.cst (.fn 90 [])) [(.tmp 3)])⟩
  (.seq ⟨some 5, none, (.build [(.v (.slice none 0 0)), (.v (.int .i64 0))] [(0, 1, (.tmp 4))])⟩
  (.seq ⟨some 6, none, (.box (.tmp 5))⟩
  (.seq ⟨some 2, none, (.ofA (.mv (.tmp 6)))⟩
  .done))))))
 .ret))
def r94 : List XR := [.tmp 2]
theorem fn94 : FnX Try.prog 94 [47, 50, 51, 52, 54, 56, 95, 97, 98, 99, 100, 101, 125, 126, 180] 7 x94 r94 := ⟨_, Try.func94, by kernel_rfl, by kernel_rfl, by kernel_rfl, by kernel_rfl⟩
-- (*almshouse/word.Reader).Done (1 parameters)
def x95 : XC := (.seq (.tree (.seq ⟨some 2, none, (.ofA (.mv (.cst (.v (.int .i64 0)))))⟩
  .done))
 (.seq (.seq (.tree (.seq ⟨some 3, none, (.ofA (.mv (.tmp 0)))⟩
  (.seq ⟨some 4, none, (.ofA (.eqn false 1 (.tmp 3) (.cst (.v (.pointer none)))))⟩
  .done)))
 (.cond (.tmp 4)
 (.seq (.tree (.seq ⟨some 2, none, (.ofA (.mv (.cst (.v (.int .i64 1)))))⟩
  .done))
 .ret)
 .skip))
 (.seq (.seq (.tree (.seq ⟨some 5, none, (.ofA (.mv (.tmp 0)))⟩
  (.seq ⟨some 6, none, (.ofA (.nilc (.tmp 5)))⟩
  (.seq ⟨some 7, none, (.ofA (.faddr 0 (.tmp 6)))⟩
  (.seq ⟨some 8, none, (.ofA (.load none (.tmp 7)))⟩
  (.seq ⟨some 9, none, (.ofA (.len (.tmp 8)))⟩
  (.seq ⟨some 10, none, (.ofA (.bin .gtr (.tmp 9) (.cst (.v (.int .i64 0)))))⟩
  .done)))))))
 (.cond (.tmp 10)
 (.tree (.seq ⟨some 11, none, (.ofA (.mv (.tmp 0)))⟩
  (.seq ⟨some 12, none, (.call (.cst (.fn 97 [])) [(.tmp 11), (.cst (.v (.int .i64 2)))])⟩
  .done)))
 .skip))
 (.seq (.tree (.seq ⟨some 13, none, (.ofA (.mv (.tmp 0)))⟩
  (.seq ⟨some 14, none, (.ofA (.nilc (.tmp 13)))⟩
  (.seq ⟨some 15, none, (.ofA (.faddr 1 (.tmp 14)))⟩
  (.seq ⟨some 16, none, (.ofA (.load none (.tmp 15)))⟩
  (.seq ⟨some 2, none, (.ofA (.mv (.tmp 16)))⟩
  .done))))))
 .ret))))
def r95 : List XR := [.tmp 2]
theorem fn95 : FnX Try.prog 95 [47, 50, 51, 52, 54, 56, 95, 97, 98, 99, 100, 101, 125, 126, 180] 17 x95 r95 := ⟨_, Try.func95, by kernel_rfl, by kernel_rfl, by kernel_rfl, by kernel_rfl⟩
-- almshouse/word.sized (1 parameters)
def x96 : XC := (.seq (.tree (.seq ⟨some 2, none, (.ofA (.mv (.cst (.v (.bool false)))))⟩
  .done))
 (.seq (.tree (.seq ⟨some 3, none, (.ofA (.mv (.tmp 0)))⟩
  (.seq ⟨some 4, none, (.ofA (.bin .eql (.tmp 3) (.cst (.v (.int .i64 1)))))⟩
  (.seq ⟨some 5, none, (.ofA (.mv (.tmp 4)))⟩
  (.seq ⟨some 6, some (5, false), (.ofA (.mv (.tmp 0)))⟩
  (.seq ⟨some 7, some (5, false), (.ofA (.bin .eql (.tmp 6) (.cst (.v (.int .i64 2)))))⟩
  (.seq ⟨some 8, none, (.ofA (.pick (.tmp 5) (.cst (.v (.bool true))) (.tmp 7)))⟩
  (.seq ⟨some 9, none, (.ofA (.mv (.tmp 8)))⟩
  (.seq ⟨some 10, some (9, false), (.ofA (.mv (.tmp 0)))⟩
  (.seq ⟨some 11, some (9, false), (.ofA (.bin .eql (.tmp 10) (.cst (.v (.int .i64 4)))))⟩
  (.seq ⟨some 12, none, (.ofA (.pick (.tmp 9) (.cst (.v (.bool true))) (.tmp 11)))⟩
  (.seq ⟨some 2, none, (.ofA (.mv (.tmp 12)))⟩
  .done))))))))))))
 .ret))
def r96 : List XR := [.tmp 2]
theorem fn96 : FnX Try.prog 96 [47, 50, 51, 52, 54, 56, 95, 97, 98, 99, 100, 101, 125, 126, 180] 13 x96 r96 := ⟨_, Try.func96, by kernel_rfl, by kernel_rfl, by kernel_rfl, by kernel_rfl⟩
-- (*almshouse/word.Reader).fail (2 parameters)
def x97 : XC := (.seq (.tree (.seq ⟨some 4, none, (.ofA (.mv (.cst (.v (.bool false)))))⟩
  .done))
 (.seq (.seq (.tree (.seq ⟨some 5, none, (.ofA (.mv (.tmp 0)))⟩
  (.seq ⟨some 6, none, (.ofA (.nilc (.tmp 5)))⟩
  (.seq ⟨some 7, none, (.ofA (.faddr 1 (.tmp 6)))⟩
  (.seq ⟨some 8, none, (.ofA (.load none (.tmp 7)))⟩
  (.seq ⟨some 9, none, (.ofA (.bin .eql (.tmp 8) (.cst (.v (.int .i64 0)))))⟩
  .done))))))
 (.cond (.tmp 9)
 (.tree (.seq ⟨some 10, none, (.ofA (.mv (.tmp 0)))⟩
  (.seq ⟨some 11, none, (.ofA (.mv (.tmp 1)))⟩
  (.seq ⟨some 12, none, (.ofA (.nilc (.tmp 10)))⟩
  (.seq ⟨some 13, none, (.ofA (.faddr 1 (.tmp 12)))⟩
  (.seq ⟨none, none, (.store 1 (.tmp 13) (.tmp 11))⟩
  .done))))))
 .skip))
 (.seq (.tree (.seq ⟨some 14, none, (.ofA (.mv (.tmp 0)))⟩
  (.seq ⟨some 15, none, (.ofA (.nilc (.tmp 14)))⟩
  (.seq ⟨some 16, none, (.ofA (.faddr 1 (.tmp 15)))⟩
  (.seq ⟨some 17, none, (.ofA (.load none (.tmp 16)))⟩
  (.seq ⟨some 18, none, (.ofA (.bin .neq (.tmp 17) (.cst (.v (.int .i64 0)))))⟩
  (.seq ⟨some 4, none, (.ofA (.mv (.tmp 18)))⟩
  .done)))))))
 .ret)))
def r97 : List XR := [.tmp 4]
theorem fn97 : FnX Try.prog 97 [47, 50, 51, 52, 54, 56, 95, 97, 98, 99, 100, 101, 125, 126, 180] 19 x97 r97 := ⟨_, Try.func97, by kernel_rfl, by kernel_rfl, by kernel_rfl, by kernel_rfl⟩
-- (*almshouse/word.Reader).next (2 parameters)
def x98 : XC := (.seq (.tree (.seq ⟨some 4, none, (.ofA (.mv (.cst (.v (.slice none 0 0)))))⟩
  .done))
 (.seq (.seq (.tree (.seq ⟨some 6, none, (.ofA (.mv (.tmp 0)))⟩
  (.seq ⟨some 7, none, (.ofA (.nilc (.tmp 6)))⟩
  (.seq ⟨some 8, none, (.ofA (.faddr 1 (.tmp 7)))⟩
  (.seq ⟨some 9, none, (.ofA (.load none (.tmp 8)))⟩
  (.seq ⟨some 10, none, (.ofA (.bin .neq (.tmp 9) (.cst (.v (.int .i64 0)))))⟩
  (.seq ⟨some 11, none, (.ofA (.mv (.tmp 10)))⟩
  (.seq ⟨some 12, some (11, false), (.ofA (.mv (.tmp 1)))⟩
  (.seq ⟨some 13, some (11, false), (.ofA (.mv (.tmp 0)))⟩
  (.seq ⟨some 14, some (11, false), (.ofA (.nilc (.tmp 13)))⟩
  (.seq ⟨some 15, some (11, false), (.ofA (.faddr 0 (.tmp 14)))⟩
  (.seq ⟨some 16, some (11, false), (.ofA (.load none (.tmp 15)))⟩
  (.seq ⟨some 17, some (11, false), (.ofA (.len (.tmp 16)))⟩
  (.seq ⟨some 18, some (11, false), (.ofA (.bin .gtr (.tmp 12) (.tmp 17)))⟩
  (.seq ⟨some 19, some (11, false), (.ofA (.mv (.tmp 18)))⟩
  (.seq ⟨some 20, some (19, true), (.ofA (.mv (.tmp 0)))⟩
  (.seq ⟨some 21, some (19, true), (.call (.cst (.fn 97 [])) [(.tmp 20), (.cst (.v (.int .i64 2)))])⟩
  (.seq ⟨some 22, some (11, false), (.ofA (.pick (.tmp 19) (.tmp 21) (.cst (.v (.bool false)))))⟩
  (.seq ⟨some 23, none, (.ofA (.pick (.tmp 11) (.cst (.v (.bool true))) (.tmp 22)))⟩
  .done)))))))))))))))))))
 (.cond (.tmp 23)
 (.seq (.tree (.seq ⟨some 4, none, (.ofA (.mv (.cst (.v (.slice none 0 0)))))⟩
  .done))
 .ret)
 .skip))
 (.seq (.tree (.seq ⟨some 24, none, (.ofA (.mv (.tmp 0)))⟩
  (.seq ⟨some 25, none, (.ofA (.nilc (.tmp 24)))⟩
  (.seq ⟨some 26, none, (.ofA (.faddr 0 (.tmp 25)))⟩
  (.seq ⟨some 27, none, (.ofA (.load none (.tmp 26)))⟩
  (.seq ⟨some 28, none, (.ofA (.mv (.tmp 1)))⟩
  (.seq ⟨some 29, none, (.ofA (.mv (.tmp 1)))⟩
  (.seq ⟨some 30, none, (.ofA (.slc3 1 (.tmp 27) none (.tmp 28) (.tmp 29)))⟩
  (.seq ⟨some 5, none, (.ofA (.mv (.tmp 30)))⟩
  .done)))))))))
 (.seq (.tree (.seq ⟨some 31, none, (.ofA (.mv (.tmp 0)))⟩
  (.seq ⟨some 32, none, (.ofA (.mv (.tmp 0)))⟩
  (.seq ⟨some 33, none, (.ofA (.nilc (.tmp 32)))⟩
  (.seq ⟨some 34, none, (.ofA (.faddr 0 (.tmp 33)))⟩
  (.seq ⟨some 35, none, (.ofA (.load none (.tmp 34)))⟩
  (.seq ⟨some 36, none, (.ofA (.mv (.tmp 1)))⟩
  (.seq ⟨some 37, none, (.ofA (.slc 1 (.tmp 35) (some (.tmp 36)) none))⟩
  (.seq ⟨some 38, none, (.ofA (.nilc (.tmp 31)))⟩
  (.seq ⟨some 39, none, (.ofA (.faddr 0 (.tmp 38)))⟩
  (.seq ⟨none, none, (.store 1 (.tmp 39) (.tmp 37))⟩
  .done)))))))))))
 (.seq (.tree (.seq ⟨some 40, none, (.ofA (.mv (.tmp 5)))⟩
  (.seq ⟨some 4, none, (.ofA (.mv (.tmp 40)))⟩
  .done)))
 .ret)))))
def r98 : List XR := [.tmp 4]
theorem fn98 : FnX Try.prog 98 [47, 50, 51, 52, 54, 56, 95, 97, 98, 99, 100, 101, 125, 126, 180] 41 x98 r98 := ⟨_, Try.func98, by kernel_rfl, by kernel_rfl, by kernel_rfl, by kernel_rfl⟩
-- (*almshouse/image.reader).block$1 (1 parameters)
def x99 : XC := (.seq (.tree (.seq ⟨some 4, none, (.ofA (.mv (.tmp 0)))⟩
  (.seq ⟨some 5, none, (.call (.cst (.fn 100 [])) [(.tmp 4)])⟩
  (.seq ⟨some 6, none, (.ofA (.faddr 0 (.tmp 1)))⟩
  (.seq ⟨none, none, (.store 1 (.tmp 6) (.tmp 5))⟩
  .done)))))
 (.seq (.tree (.seq ⟨some 7, none, (.ofA (.mv (.tmp 0)))⟩
  (.seq ⟨some 8, none, (.call (.cst (.fn 52 [])) [(.tmp 7), (.cst (.v (.int .i64 1)))])⟩
  (.seq ⟨none, none, (.store 1 (.tmp 2) (.tmp 8))⟩
  .done))))
 (.tree (.seq ⟨some 9, none, (.ofA (.mv (.tmp 0)))⟩
  (.seq ⟨some 10, none, (.call (.cst (.fn 52 [])) [(.tmp 9), (.cst (.v (.int .i64 4)))])⟩
  (.seq ⟨some 11, none, (.ofA (.faddr 1 (.tmp 1)))⟩
  (.seq ⟨none, none, (.store 1 (.tmp 11) (.tmp 10))⟩
  .done)))))))
def r99 : List XR := []
theorem fn99 : FnX Try.prog 99 [47, 50, 51, 52, 54, 56, 95, 97, 98, 99, 100, 101, 125, 126, 180] 12 x99 r99 := ⟨_, Try.func99, by kernel_rfl, by kernel_rfl, by kernel_rfl, by kernel_rfl⟩
-- (*almshouse/word.Reader).Flag (1 parameters)
def x100 : XC := (.seq (.tree (.seq ⟨some 2, none, (.ofA (.mv (.cst (.v (.bool false)))))⟩
  .done))
 (.seq (.tree (.seq ⟨some 4, none, (.ofA (.mv (.tmp 0)))⟩
  (.seq ⟨some 5, none, (.call (.cst (.fn 52 [])) [(.tmp 4), (.cst (.v (.int .i64 1)))])⟩
  (.seq ⟨some 3, none, (.ofA (.mv (.tmp 5)))⟩
  .done))))
 (.seq (.seq (.tree (.seq ⟨some 6, none, (.ofA (.mv (.tmp 3)))⟩
  (.seq ⟨some 7, none, (.ofA (.bin .gtr (.tmp 6) (.cst (.v (.int .i64 1)))))⟩
  .done)))
 (.cond (.tmp 7)
 (.tree (.seq ⟨some 8, none, (.ofA (.mv (.tmp 0)))⟩
  (.seq ⟨some 9, none, (.call (.cst (.fn 97 [])) [(.tmp 8), (.cst (.v (.int .i64 2)))])⟩
  .done)))
 .skip))
 (.seq (.tree (.seq ⟨some 10, none, (.ofA (.mv (.tmp 3)))⟩
  (.seq ⟨some 11, none, (.ofA (.bin .eql (.tmp 10) (.cst (.v (.int .i64 1)))))⟩
  (.seq ⟨some 2, none, (.ofA (.mv (.tmp 11)))⟩
  .done))))
 .ret))))
def r100 : List XR := [.tmp 2]
theorem fn100 : FnX Try.prog 100 [47, 50, 51, 52, 54, 56, 95, 97, 98, 99, 100, 101, 125, 126, 180] 12 x100 r100 := ⟨_, Try.func100, by kernel_rfl, by kernel_rfl, by kernel_rfl, by kernel_rfl⟩
-- (*almshouse/image.reader).page (1 parameters)
def x101 : XC := (.seq (.tree (.seq ⟨some 2, none, (.alloc [(.v (.bool false)), (.v (.string ⟨#[]⟩)), (.v (.string ⟨#[]⟩))])⟩
  .done))
 (.seq (.tree (.seq ⟨some 3, none, (.ofA (.mv (.tmp 0)))⟩
  (.seq ⟨some 4, none, (.ofA (.mkfn 125 [(.tmp 2)]))⟩
  (.seq ⟨some 5, none, (.call (.cst (.fn 50 [])) [(.tmp 3), (.cst (.v (.int .i64 80))), (.tmp 4)])⟩
  .done))))
 (.seq (.tree (.seq ⟨some 6, none, (.ofA (.load (some 3) (.tmp 2)))⟩
  (.seq ⟨none, none, (.store 3 (.tmp 2) (.tmp 6))⟩
  .done)))
 .ret)))
def r101 : List XR := [.cell 2 (some 3)]
theorem fn101 : FnX Try.prog 101 [47, 50, 51, 52, 54, 56, 95, 97, 98, 99, 100, 101, 125, 126, 180] 7 x101 r101 := ⟨_, Try.func101, by kernel_rfl, by kernel_rfl, by kernel_rfl, by kernel_rfl⟩
-- slices.Equal[[]almshouse/image.Page,almshouse/image.Page] (2 parameters)
def x104 : XC := (.seq (.tree (.seq ⟨some 4, none, (.ofA (.mv (.cst (.v (.bool false)))))⟩
  .done))
 (.seq (.seq (.tree (.seq ⟨some 6, none, (.ofA (.mv (.tmp 0)))⟩
  (.seq ⟨some 7, none, (.ofA (.len (.tmp 6)))⟩
  (.seq ⟨some 8, none, (.ofA (.mv (.tmp 1)))⟩
  (.seq ⟨some 9, none, (.ofA (.len (.tmp 8)))⟩
  (.seq ⟨some 10, none, (.ofA (.bin .neq (.tmp 7) (.tmp 9)))⟩
  .done))))))
 (.cond (.tmp 10)
 (.seq (.tree (.seq ⟨some 4, none, (.ofA (.mv (.cst (.v (.bool false)))))⟩
  .done))
 .ret)
 .skip))
 (.seq (.seq (.tree (.seq ⟨some 11, none, (.ofA (.mv (.tmp 0)))⟩
  (.seq ⟨some 12, none, (.ofA (.len (.tmp 11)))⟩
  (.seq ⟨some 13, none, (.ofA (.mv (.cst (.v (.int .i64 0)))))⟩
  .done))))
 (.block 0 (.loop (.seq (.tree (.seq ⟨some 14, none, (.ofA (.bin .lss (.tmp 13) (.tmp 12)))⟩
  .done))
 (.seq (.cond (.tmp 14)
 .skip
 (.exit 0))
 (.seq (.block 1 (.seq (.tree (.seq ⟨some 15, none, (.ofA (.mv (.tmp 13)))⟩
  (.seq ⟨some 5, none, (.ofA (.mv (.tmp 15)))⟩
  .done)))
 (.seq (.tree (.take ⟨some 16, none, (.ofA (.mv (.tmp 0)))⟩
  (.take ⟨some 17, none, (.ofA (.mv (.tmp 5)))⟩
  (.take ⟨some 18, none, (.ofA (.isl 3 (.tmp 16) (.tmp 17)))⟩
  (.take ⟨some 19, none, (.ofA (.load (some 3) (.tmp 18)))⟩
  (.take ⟨some 20, none, (.ofA (.mv (.tmp 1)))⟩
  (.take ⟨some 21, none, (.ofA (.mv (.tmp 5)))⟩
  (.take ⟨some 22, none, (.ofA (.isl 3 (.tmp 20) (.tmp 21)))⟩
  (.take ⟨some 23, none, (.ofA (.load (some 3) (.tmp 22)))⟩
  (.take ⟨some 24, none, (.ofA (.eqs true [.bool, .str, .str] (.tmp 19) (.tmp 23)))⟩
  .done))))))))))
 (.cond (.tmp 24)
 (.seq (.tree (.seq ⟨some 4, none, (.ofA (.mv (.cst (.v (.bool false)))))⟩
  .done))
 .ret)
 .skip))))
 (.tree (.seq ⟨some 25, none, (.ofA (.bin .add (.tmp 13) (.cst (.v (.int .i64 1)))))⟩
  (.seq ⟨some 13, none, (.ofA (.mv (.tmp 25)))⟩
  .done)))))))))
 (.seq (.tree (.seq ⟨some 4, none, (.ofA (.mv (.cst (.v (.bool true)))))⟩
  .done))
 .ret))))
def r104 : List XR := [.tmp 4]
theorem fn104 : FnX Try.prog 104 [47, 50, 51, 52, 54, 56, 95, 97, 98, 99, 100, 101, 125, 126, 180] 26 x104 r104 := ⟨_, Try.func104, by kernel_rfl, by kernel_rfl, by kernel_rfl, by kernel_rfl⟩
-- slices.IndexFunc[[]almshouse/image.Page,almshouse/image.Page] (2 parameters)
def x122 : XC := (.seq (.tree (.seq ⟨some 4, none, (.ofA (.mv (.cst (.v (.int .i64 0)))))⟩
  .done))
 (.seq (.seq (.tree (.seq ⟨some 6, none, (.ofA (.mv (.tmp 0)))⟩
  (.seq ⟨some 7, none, (.ofA (.len (.tmp 6)))⟩
  (.seq ⟨some 8, none, (.ofA (.mv (.cst (.v (.int .i64 0)))))⟩
  .done))))
 (.block 0 (.loop (.seq (.tree (.seq ⟨some 9, none, (.ofA (.bin .lss (.tmp 8) (.tmp 7)))⟩
  .done))
 (.seq (.cond (.tmp 9)
 .skip
 (.exit 0))
 (.seq (.block 1 (.seq (.tree (.seq ⟨some 10, none, (.ofA (.mv (.tmp 8)))⟩
  (.seq ⟨some 5, none, (.ofA (.mv (.tmp 10)))⟩
  .done)))
 (.seq (.tree (.seq ⟨some 11, none, (.ofA (.mv (.tmp 1)))⟩
  (.seq ⟨some 12, none, (.ofA (.mv (.tmp 0)))⟩
  (.seq ⟨some 13, none, (.ofA (.mv (.tmp 5)))⟩
  (.seq ⟨some 14, none, (.ofA (.isl 3 (.tmp 12) (.tmp 13)))⟩
  (.seq ⟨some 15, none, (.ofA (.load (some 3) (.tmp 14)))⟩
  (.seq ⟨some 16, none, (.call (.tmp 11) [(.tmp 15)])⟩
  .done)))))))
 (.cond (.tmp 16)
 (.seq (.tree (.seq ⟨some 17, none, (.ofA (.mv (.tmp 5)))⟩
  (.seq ⟨some 4, none, (.ofA (.mv (.tmp 17)))⟩
  .done)))
 .ret)
 .skip))))
 (.tree (.seq ⟨some 18, none, (.ofA (.bin .add (.tmp 8) (.cst (.v (.int .i64 1)))))⟩
  (.seq ⟨some 8, none, (.ofA (.mv (.tmp 18)))⟩
  .done)))))))))
 (.seq (.tree (.seq ⟨some 4, none, (.ofA (.mv (.cst (.v (.int .i64 (-1))))))⟩
  .done))
 .ret)))
def r122 : List XR := [.tmp 4]
theorem fn122 : FnX Try.prog 122 [47, 50, 51, 52, 54, 56, 95, 97, 98, 99, 100, 101, 125, 126, 180] 19 x122 r122 := ⟨_, Try.func122, by kernel_rfl, by kernel_rfl, by kernel_rfl, by kernel_rfl⟩
-- (*almshouse/word.Reader).Left (1 parameters)
def x124 : XC := (.seq (.tree (.seq ⟨some 2, none, (.ofA (.mv (.cst (.v (.int .i64 0)))))⟩
  .done))
 (.seq (.seq (.tree (.seq ⟨some 3, none, (.ofA (.mv (.tmp 0)))⟩
  (.seq ⟨some 4, none, (.ofA (.eqn false 1 (.tmp 3) (.cst (.v (.pointer none)))))⟩
  .done)))
 (.cond (.tmp 4)
 (.seq (.tree (.seq ⟨some 2, none, (.ofA (.mv (.cst (.v (.int .i64 0)))))⟩
  .done))
 .ret)
 .skip))
 (.seq (.tree (.seq ⟨some 5, none, (.ofA (.mv (.tmp 0)))⟩
  (.seq ⟨some 6, none, (.ofA (.nilc (.tmp 5)))⟩
  (.seq ⟨some 7, none, (.ofA (.faddr 0 (.tmp 6)))⟩
  (.seq ⟨some 8, none, (.ofA (.load none (.tmp 7)))⟩
  (.seq ⟨some 9, none, (.ofA (.len (.tmp 8)))⟩
  (.seq ⟨some 2, none, (.ofA (.mv (.tmp 9)))⟩
  .done)))))))
 .ret)))
def r124 : List XR := [.tmp 2]
theorem fn124 : FnX Try.prog 124 [47, 50, 51, 52, 54, 56, 95, 97, 98, 99, 100, 101, 125, 126, 180] 10 x124 r124 := ⟨_, Try.func124, by kernel_rfl, by kernel_rfl, by kernel_rfl, by kernel_rfl⟩
-- (*almshouse/image.reader).page$1 (1 parameters)
def x125 : XC := (.seq (.tree (.seq ⟨some 3, none, (.ofA (.mv (.tmp 0)))⟩
  (.seq ⟨some 4, none, (.call (.cst (.fn 100 [])) [(.tmp 3)])⟩
  (.seq ⟨some 5, none, (.ofA (.faddr 0 (.tmp 1)))⟩
  (.seq ⟨none, none, (.store 1 (.tmp 5) (.tmp 4))⟩
  .done)))))
 (.seq (.tree (.seq ⟨some 6, none, (.ofA (.faddr 0 (.tmp 1)))⟩
  (.seq ⟨some 7, none, (.ofA (.load none (.tmp 6)))⟩
  (.seq ⟨some 8, none, (.ofA (.un .not (.tmp 7)))⟩
  .done))))
 (.cond (.tmp 8)
 (.seq (.tree (.seq ⟨some 9, none, (.ofA (.mv (.tmp 0)))⟩
  (.seq ⟨some 10, none, (.call (.cst (.fn 126 [])) [(.tmp 9), (.cst (.v (.int .i64 32)))])⟩
  (.seq ⟨some 11, none, (.ofA (.faddr 1 (.tmp 1)))⟩
  (.seq ⟨none, none, (.store 1 (.tmp 11) (.tmp 10))⟩
  .done)))))
 (.tree (.seq ⟨some 12, none, (.ofA (.mv (.tmp 0)))⟩
  (.seq ⟨some 13, none, (.call (.cst (.fn 126 [])) [(.tmp 12), (.cst (.v (.int .i64 160)))])⟩
  (.seq ⟨some 14, none, (.ofA (.faddr 2 (.tmp 1)))⟩
  (.seq ⟨none, none, (.store 1 (.tmp 14) (.tmp 13))⟩
  .done))))))
 .skip)))
def r125 : List XR := []
theorem fn125 : FnX Try.prog 125 [47, 50, 51, 52, 54, 56, 95, 97, 98, 99, 100, 101, 125, 126, 180] 15 x125 r125 := ⟨_, Try.func125, by kernel_rfl, by kernel_rfl, by kernel_rfl, by kernel_rfl⟩
-- (*almshouse/word.Reader).Text (2 parameters)
def x126 : XC := (.seq (.tree (.seq ⟨some 4, none, (.ofA (.mv (.cst (.v (.string ⟨#[]⟩)))))⟩
  .done))
 (.seq (.tree (.seq ⟨some 6, none, (.ofA (.mv (.tmp 0)))⟩
  (.seq ⟨some 7, none, (.call (.cst (.fn 52 [])) [(.tmp 6), (.cst (.v (.int .i64 2)))])⟩
  (.seq ⟨some 5, none, (.ofA (.mv (.tmp 7)))⟩
  .done))))
 (.seq (.seq (.tree (.seq ⟨some 8, none, (.ofA (.mv (.tmp 0)))⟩
  (.seq ⟨some 9, none, (.ofA (.eqn false 1 (.tmp 8) (.cst (.v (.pointer none)))))⟩
  (.seq ⟨some 10, none, (.ofA (.mv (.tmp 9)))⟩
  (.seq ⟨some 11, some (10, false), (.ofA (.mv (.tmp 0)))⟩
  (.seq ⟨some 12, some (10, false), (.ofA (.nilc (.tmp 11)))⟩
  (.seq ⟨some 13, some (10, false), (.ofA (.faddr 1 (.tmp 12)))⟩
  (.seq ⟨some 14, some (10, false), (.ofA (.load none (.tmp 13)))⟩
  (.seq ⟨some 15, some (10, false), (.ofA (.bin .neq (.tmp 14) (.cst (.v (.int .i64 0)))))⟩
  (.seq ⟨some 16, none, (.ofA (.pick (.tmp 10) (.cst (.v (.bool true))) (.tmp 15)))⟩
  (.seq ⟨some 17, none, (.ofA (.mv (.tmp 16)))⟩
  (.seq ⟨some 18, some (17, false), (.ofA (.mv (.tmp 5)))⟩
  (.seq ⟨some 19, some (17, false), (.ofA (.mv (.tmp 1)))⟩
  (.seq ⟨some 20, some (17, false), (.ofA (.bin .gtr (.tmp 18) (.tmp 19)))⟩
  (.seq ⟨some 21, some (17, false), (.ofA (.mv (.tmp 20)))⟩
  (.seq ⟨some 22, some (21, true), (.ofA (.mv (.tmp 0)))⟩
  (.seq ⟨some 23, some (21, true), (.call (.cst (.fn 97 [])) [(.tmp 22), (.cst (.v (.int .i64 3)))])⟩
  (.seq ⟨some 24, some (17, false), (.ofA (.pick (.tmp 21) (.tmp 23) (.cst (.v (.bool false)))))⟩
  (.seq ⟨some 25, none, (.ofA (.pick (.tmp 17) (.cst (.v (.bool true))) (.tmp 24)))⟩
  .done)))))))))))))))))))
 (.cond (.tmp 25)
 (.seq (.tree (.seq ⟨some 4, none, (.ofA (.mv (.cst (.v (.string ⟨#[]⟩)))))⟩
  .done))
 .ret)
 .skip))
 (.seq (.tree (.seq ⟨some 26, none, (.ofA (.mv (.tmp 0)))⟩
  (.seq ⟨some 27, none, (.ofA (.mv (.tmp 5)))⟩
  (.seq ⟨some 28, none, (.call (.cst (.fn 98 [])) [(.tmp 26), (.tmp 27)])⟩
  (.seq ⟨some 29, none, (.ofA (.b2s (.tmp 28)))⟩
  (.seq ⟨some 4, none, (.ofA (.mv (.tmp 29)))⟩
  .done))))))
 .ret))))
def r126 : List XR := [.tmp 4]
theorem fn126 : FnX Try.prog 126 [47, 50, 51, 52, 54, 56, 95, 97, 98, 99, 100, 101, 125, 126, 180] 30 x126 r126 := ⟨_, Try.func126, by kernel_rfl, by kernel_rfl, by kernel_rfl, by kernel_rfl⟩
-- (*sync/atomic.Bool).Load (1 parameters)
def x146 : XC := (.seq (.tree (.seq ⟨some 2, none, (.ofA (.mv (.cst (.v (.bool false)))))⟩
  .done))
 (.seq (.tree (.seq ⟨some 3, none, (.ofA (.mv (.tmp 0)))⟩
  (.seq ⟨some 4, none, (.ofA (.nilc (.tmp 3)))⟩
  (.seq ⟨some 5, none, (.ofA (.faddr 0 (.tmp 4)))⟩
  (.seq ⟨some 6, none, (.call (.cst (.fn 164 [])) [(.tmp 5)])⟩
  (.seq ⟨some 7, none, (.ofA (.bin .neq (.tmp 6) (.cst (.v (.int .u32 0)))))⟩
  (.seq ⟨some 2, none, (.ofA (.mv (.tmp 7)))⟩
  .done)))))))
 .ret))
def r146 : List XR := [.tmp 2]
theorem fn146 : FnX Try.prog 146 [47, 50, 51, 52, 54, 56, 95, 97, 98, 99, 100, 101, 125, 126, 180] 8 x146 r146 := ⟨_, Try.func146, by kernel_rfl, by kernel_rfl, by kernel_rfl, by kernel_rfl⟩

def T11 : List RE := [.run 11 true ⟨x11, 60, r11, 6⟩, .run 13 true ⟨x13, 102, r13, 7⟩, .run 15 true ⟨x15, 74, r15, 7⟩, .run 17 true ⟨x17, 17, r17, 5⟩, .run 18 true ⟨x18, 49, r18, 6⟩, .run 43 true ⟨x43, 10, r43, 4⟩, .run 44 true ⟨x44, 60, r44, 6⟩, .run 45 true ⟨x45, 50, r45, 6⟩, .run 46 true ⟨x46, 28, r46, 5⟩, .run 47 false ⟨x47, 32, r47, 6⟩, .run 48 true ⟨x48, 4, r48, 3⟩, .run 49 true ⟨x49, 16, r49, 5⟩, .run 50 false ⟨x50, 55, r50, 6⟩, .run 51 false ⟨x51, 13, r51, 4⟩, .run 52 false ⟨x52, 38, r52, 6⟩, .run 53 true ⟨x53, 50, r53, 6⟩, .run 54 false ⟨x54, 13, r54, 4⟩, .run 55 true ⟨x55, 14, r55, 4⟩, .run 56 false ⟨x56, 24, r56, 5⟩, .run 61 true ⟨x61, 32, r61, 6⟩, .run 62 true ⟨x62, 24, r62, 5⟩, .run 80 true ⟨x80, 10, r80, 4⟩, .run 81 true ⟨x81, 10, r81, 4⟩, .run 86 true ⟨x86, 9, r86, 4⟩, .run 87 true ⟨x87, 6, r87, 3⟩, .run 88 true ⟨x88, 18, r88, 5⟩, .run 89 true ⟨x89, 9, r89, 4⟩, .run 90 true ⟨x90, 8, r90, 4⟩, .run 91 true ⟨x91, 15, r91, 4⟩, .run 92 true ⟨x92, 27, r92, 5⟩, .run 93 true ⟨x93, 45, r93, 6⟩, .run 94 true ⟨x94, 7, r94, 3⟩, .run 95 false ⟨x95, 17, r95, 5⟩, .run 96 true ⟨x96, 13, r96, 4⟩, .run 97 false ⟨x97, 19, r97, 5⟩, .run 98 false ⟨x98, 41, r98, 6⟩, .run 99 false ⟨x99, 12, r99, 4⟩, .run 100 false ⟨x100, 12, r100, 4⟩, .run 101 false ⟨x101, 7, r101, 3⟩, .run 104 true ⟨x104, 26, r104, 5⟩, .run 122 true ⟨x122, 19, r122, 5⟩, .run 123 true ⟨x123, 5, r123, 3⟩, .run 124 true ⟨x124, 10, r124, 4⟩, .run 125 false ⟨x125, 15, r125, 4⟩, .run 126 false ⟨x126, 30, r126, 5⟩, .run 146 true ⟨x146, 8, r146, 4⟩, .nat 147 true g242N, .nat 164 true (nLoad .u32), .nat 180 false nStore]
theorem T11_ok : TOk Try.prog EFF T11 := (TOk.run fn11 (TOk.run fn13 (TOk.run fn15 (TOk.run fn17 (TOk.run fn18 (TOk.run fn43 (TOk.run fn44 (TOk.run fn45 (TOk.run fn46 (TOk.run fn47 (TOk.run fn48 (TOk.run fn49 (TOk.run fn50 (TOk.run fn51 (TOk.run fn52 (TOk.run fn53 (TOk.run fn54 (TOk.run fn55 (TOk.run fn56 (TOk.run fn61 (TOk.run fn62 (TOk.run fn80 (TOk.run fn81 (TOk.run fn86 (TOk.run fn87 (TOk.run fn88 (TOk.run fn89 (TOk.run fn90 (TOk.run fn91 (TOk.run fn92 (TOk.run fn93 (TOk.run fn94 (TOk.run fn95 (TOk.run fn96 (TOk.run fn97 (TOk.run fn98 (TOk.run fn99 (TOk.run fn100 (TOk.run fn101 (TOk.run fn104 (TOk.run fn122 (TOk.run fn123e (TOk.run fn124 (TOk.run fn125 (TOk.run fn126 (TOk.run fn146 (TOk.nat h147 (TOk.nat h164 (TOk.nat h180 TOk.nil)))))))))))))))))))))))))))))))))))))))))))))))))


theorem run11 : runsTo T11 1000 80 11 [] (.v (.bool true)) = true := by kernel_rfl
def c11 [Inp] : Trans := fun args m k => args = [] ∧ k (.v (.bool true)) m
theorem c11_ok [Inp] : Contract Try.prog 11 true c11 := .runs T11_ok 1000 80 run11 _ fun a m k h => ⟨h.1, h.2⟩
end Go.Proofs.Ytibefgdjijmncaa.Run
