/- Layer 45 (foreign): the law's own document, reckoned by the kernel. -/
import Derived.Test.YtdbjkklhgfhgnaaGreatOnE
import Derived.Test.YtdbjkklhgfhgnaaGreatSzP
namespace Go.Proofs.YtdbjkklhgfhgnaaGreat
open Go.RowKit Sz
set_option linter.unusedVariables false
set_option linter.unusedSimpArgs false
set_option maxHeartbeats 4000000
set_option maxRecDepth 20000
abbrev EFF : List FuncId := [12, 14, 29, 33, 35, 51, 52, 57, 59, 68, 73, 79, 83, 84, 85, 96, 100, 101, 102, 106, 108, 109, 122, 124, 125, 133, 137, 138, 143, 144, 148, 158, 159, 160, 161, 172, 173, 174, 177, 179, 185, 187, 193, 195, 199, 203, 207, 211, 216, 217, 218, 219, 220, 221, 222, 224, 225, 228, 229, 240, 242, 244, 249, 251, 252, 253, 254, 258, 259, 260, 261, 262, 263, 264, 265, 267, 268, 269, 270, 271, 273]
-- (*almshouse/store.Store).Read (2 parameters)
def x7 : XC := (.seq (.tree (.seq ⟨some 4, none, (.ofA (.mv (.cst (.v (.string ⟨#[]⟩)))))⟩
  (.seq ⟨some 5, none, (.ofA (.mv (.cst (.v (.int .i64 0)))))⟩
  .done)))
 (.seq (.seq (.tree (.seq ⟨some 14, none, (.ofA (.mv (.tmp 0)))⟩
  (.seq ⟨some 15, none, (.ofA (.mv (.tmp 1)))⟩
  (.seq ⟨some 16, none, (.call (.cst (.fn 47 [])) [(.tmp 14), (.tmp 15)])⟩
  (.seq ⟨some 6, none, (.ofA (.mv (.tmp 16)))⟩
  .done)))))
 (.seq (.tree (.seq ⟨some 17, none, (.ofA (.mv (.tmp 6)))⟩
  (.seq ⟨some 18, none, (.ofA (.bin .neq (.tmp 17) (.cst (.v (.int .i64 0)))))⟩
  .done)))
 (.cond (.tmp 18)
 (.seq (.tree (.seq ⟨some 19, none, (.ofA (.mv (.tmp 6)))⟩
  (.seq ⟨some 4, none, (.ofA (.mv (.cst (.v (.string ⟨#[]⟩)))))⟩
  (.seq ⟨some 5, none, (.ofA (.mv (.tmp 19)))⟩
  .done))))
 .ret)
 .skip)))
 (.seq (.seq (.tree (.seq ⟨some 21, none, (.ofA (.mv (.tmp 0)))⟩
  (.seq ⟨some 22, none, (.ofA (.nilc (.tmp 21)))⟩
  (.seq ⟨some 23, none, (.ofA (.faddr 8 (.tmp 22)))⟩
  (.seq ⟨some 24, none, (.ofA (.load none (.tmp 23)))⟩
  (.seq ⟨some 25, none, (.ofA (.mv (.tmp 1)))⟩
  (.seq ⟨some 26, none, (.call (.cst (.fn 48 [])) [(.tmp 24), (.tmp 25)])⟩
  (.seq ⟨some 20, none, (.ofA (.mv (.tmp 26)))⟩
  (.seq ⟨some 27, none, (.ofA (.extract 0 (.tmp 20)))⟩
  (.seq ⟨some 28, none, (.ofA (.extract 1 (.tmp 20)))⟩
  (.seq ⟨some 7, none, (.alloc [(.v (.int .i64 0)), (.v (.int .i64 0)), (.v (.string ⟨#[]⟩))])⟩
  (.seq ⟨none, none, (.store 3 (.tmp 7) (.tmp 27))⟩
  (.seq ⟨some 8, none, (.ofA (.mv (.tmp 28)))⟩
  .done)))))))))))))
 (.seq (.tree (.seq ⟨some 29, none, (.ofA (.mv (.tmp 8)))⟩
  .done))
 (.cond (.tmp 29)
 (.seq (.tree (.seq ⟨some 30, none, (.ofA (.faddr 2 (.tmp 7)))⟩
  (.seq ⟨some 31, none, (.ofA (.load none (.tmp 30)))⟩
  (.seq ⟨some 4, none, (.ofA (.mv (.tmp 31)))⟩
  (.seq ⟨some 5, none, (.ofA (.mv (.cst (.v (.int .i64 0)))))⟩
  .done)))))
 .ret)
 .skip)))
 (.seq (.tree (.seq ⟨some 33, none, (.ofA (.mv (.tmp 0)))⟩
  (.seq ⟨some 34, none, (.ofA (.nilc (.tmp 33)))⟩
  (.seq ⟨some 35, none, (.ofA (.faddr 7 (.tmp 34)))⟩
  (.seq ⟨some 36, none, (.ofA (.load none (.tmp 35)))⟩
  (.seq ⟨some 37, none, (.ofA (.mv (.tmp 1)))⟩
  (.seq ⟨some 38, none, (.call (.cst (.fn 49 [])) [(.tmp 36), (.tmp 37)])⟩
  (.seq ⟨some 32, none, (.ofA (.mv (.tmp 38)))⟩
  (.seq ⟨some 39, none, (.ofA (.extract 0 (.tmp 32)))⟩
  (.seq ⟨some 40, none, (.ofA (.extract 1 (.tmp 32)))⟩
  (.seq ⟨some 41, none, (.ofA (.extract 2 (.tmp 32)))⟩
  (.seq ⟨some 9, none, (.ofA (.mv (.tmp 39)))⟩
  (.seq ⟨some 10, none, (.ofA (.mv (.tmp 40)))⟩
  (.seq ⟨some 11, none, (.ofA (.mv (.tmp 41)))⟩
  .done))))))))))))))
 (.seq (.seq (.tree (.seq ⟨some 42, none, (.ofA (.mv (.tmp 11)))⟩
  (.seq ⟨some 43, none, (.ofA (.un .not (.tmp 42)))⟩
  .done)))
 (.cond (.tmp 43)
 (.seq (.tree (.seq ⟨some 4, none, (.ofA (.mv (.cst (.v (.string ⟨#[]⟩)))))⟩
  (.seq ⟨some 5, none, (.ofA (.mv (.cst (.v (.int .i64 0)))))⟩
  .done)))
 .ret)
 .skip))
 (.seq (.tree (.take ⟨some 45, none, (.ofA (.mv (.tmp 0)))⟩
  (.take ⟨some 46, none, (.ofA (.nilc (.tmp 45)))⟩
  (.take ⟨some 47, none, (.ofA (.faddr 0 (.tmp 46)))⟩
  (.take ⟨some 48, none, (.ofA (.load none (.tmp 47)))⟩
  (.take ⟨some 49, none, (.ofA (.mv (.tmp 0)))⟩
  (.take ⟨some 50, none, (.ofA (.nilc (.tmp 49)))⟩
  (.take ⟨some 51, none, (.ofA (.faddr 2 (.tmp 50)))⟩
  (.take ⟨some 52, none, (.ofA (.faddr 4 (.tmp 51)))⟩
  (.take ⟨some 53, none, (.ofA (.load none (.tmp 52)))⟩
  (.take ⟨some 54, none, (.ofA (.mv (.tmp 9)))⟩
  (.take ⟨some 55, none, (.ofA (.mv (.tmp 10)))⟩
  (.alt [true, true] [(⟨some 56, none, (.call (.cst (.fn 50 [])) [(.tmp 48), (.tmp 53), (.tmp 54), (.tmp 55)])⟩,
 (.take ⟨some 44, none, (.ofA (.mv (.tmp 56)))⟩
  (.take ⟨some 57, none, (.ofA (.extract 0 (.tmp 44)))⟩
  (.take ⟨some 58, none, (.ofA (.extract 1 (.tmp 44)))⟩
  (.alt [true] [(⟨some 12, none, (.alloc [(.v (.int .i64 0)), (.v (.int .i64 0)), (.v (.bool false)), (.v (.int .i64 0)), (.v (.int .i64 0)), (.v (.int .i64 0)), (.v (.int .i64 0)), (.v (.int .i64 0)), (.v (.bool false)), (.v (.string ⟨#[]⟩))])⟩,
 (.alt [false] [(⟨none, none, (.store 10 (.tmp 12) (.tmp 57))⟩,
 (.take ⟨some 13, none, (.ofA (.mv (.tmp 58)))⟩
  .done))]))]))))), (⟨some 12, none, (.alloc [(.v (.int .i64 0)), (.v (.int .i64 0)), (.v (.bool false)), (.v (.int .i64 0)), (.v (.int .i64 0)), (.v (.int .i64 0)), (.v (.int .i64 0)), (.v (.int .i64 0)), (.v (.bool false)), (.v (.string ⟨#[]⟩))])⟩,
 (.alt [true] [(⟨some 56, none, (.call (.cst (.fn 50 [])) [(.tmp 48), (.tmp 53), (.tmp 54), (.tmp 55)])⟩,
 (.take ⟨some 44, none, (.ofA (.mv (.tmp 56)))⟩
  (.take ⟨some 57, none, (.ofA (.extract 0 (.tmp 44)))⟩
  (.take ⟨some 58, none, (.ofA (.extract 1 (.tmp 44)))⟩
  (.alt [false] [(⟨none, none, (.store 10 (.tmp 12) (.tmp 57))⟩,
 (.take ⟨some 13, none, (.ofA (.mv (.tmp 58)))⟩
  .done))])))))]))])))))))))))))
 (.seq (.seq (.tree (.seq ⟨some 59, none, (.ofA (.mv (.tmp 13)))⟩
  (.seq ⟨some 60, none, (.ofA (.bin .neq (.tmp 59) (.cst (.v (.int .i64 0)))))⟩
  (.seq ⟨some 61, none, (.ofA (.mv (.tmp 60)))⟩
  (.seq ⟨some 62, some (61, false), (.ofA (.faddr 3 (.tmp 12)))⟩
  (.seq ⟨some 63, some (61, false), (.ofA (.faddr 4 (.tmp 62)))⟩
  (.seq ⟨some 64, some (61, false), (.ofA (.load none (.tmp 63)))⟩
  (.seq ⟨some 65, some (61, false), (.ofA (.bin .eql (.tmp 64) (.cst (.v (.int .i64 2)))))⟩
  (.seq ⟨some 66, none, (.ofA (.pick (.tmp 61) (.cst (.v (.bool true))) (.tmp 65)))⟩
  .done)))))))))
 (.cond (.tmp 66)
 (.seq (.tree (.seq ⟨some 67, none, (.ofA (.mv (.tmp 13)))⟩
  (.seq ⟨some 4, none, (.ofA (.mv (.cst (.v (.string ⟨#[]⟩)))))⟩
  (.seq ⟨some 5, none, (.ofA (.mv (.tmp 67)))⟩
  .done))))
 .ret)
 .skip))
 (.seq (.tree (.seq ⟨some 68, none, (.ofA (.faddr 9 (.tmp 12)))⟩
  (.seq ⟨some 69, none, (.ofA (.load none (.tmp 68)))⟩
  (.seq ⟨some 4, none, (.ofA (.mv (.tmp 69)))⟩
  (.seq ⟨some 5, none, (.ofA (.mv (.cst (.v (.int .i64 0)))))⟩
  .done)))))
 .ret))))))))
def r7 : List XR := [.tmp 4, .tmp 5]
theorem fn7 : FnX Tryz.prog 7 EFF 70 x7 r7 := ⟨_, Tryz.func7, by kernel_rfl, by kernel_rfl, by kernel_rfl, by kernel_rfl⟩
-- almshouse/store.New (3 parameters)
def x11 : XC := (.seq (.tree (.seq ⟨some 5, none, (.box (.tmp 2))⟩
  (.seq ⟨some 6, none, (.ofA (.mv (.cst (.v (.pointer none)))))⟩
  (.seq ⟨some 7, none, (.ofA (.mv (.cst (.v (.int .i64 0)))))⟩
  .done))))
 (.seq (.seq (.tree (.seq ⟨some 9, none, (.ofA (.mv (.tmp 0)))⟩
  (.seq ⟨some 10, none, (.ofA (.eqn false 1 (.tmp 9) (.cst (.v (.pointer none)))))⟩
  (.seq ⟨some 11, none, (.ofA (.mv (.tmp 10)))⟩
  (.seq ⟨some 12, some (11, false), (.ofA (.mv (.tmp 1)))⟩
  (.seq ⟨some 13, some (11, false), (.ofA (.bin .lss (.tmp 12) (.cst (.v (.int .i64 0)))))⟩
  (.seq ⟨some 14, none, (.ofA (.pick (.tmp 11) (.cst (.v (.bool true))) (.tmp 13)))⟩
  (.seq ⟨some 15, none, (.ofA (.mv (.tmp 14)))⟩
  (.seq ⟨some 16, some (15, false), (.ofA (.mv (.tmp 1)))⟩
  (.seq ⟨some 17, some (15, false), (.ofA (.bin .geq (.tmp 16) (.cst (.v (.int .i64 4)))))⟩
  (.seq ⟨some 18, none, (.ofA (.pick (.tmp 15) (.cst (.v (.bool true))) (.tmp 17)))⟩
  (.seq ⟨some 19, none, (.ofA (.mv (.tmp 18)))⟩
  (.seq ⟨some 20, some (19, false), (.ofA (.faddr 0 (.tmp 5)))⟩
  (.seq ⟨some 21, some (19, false), (.ofA (.load none (.tmp 20)))⟩
  (.seq ⟨some 22, some (19, false), (.ofA (.un .not (.tmp 21)))⟩
  (.seq ⟨some 23, none, (.ofA (.pick (.tmp 19) (.cst (.v (.bool true))) (.tmp 22)))⟩
  .done))))))))))))))))
 (.cond (.tmp 23)
 (.seq (.tree (.seq ⟨some 6, none, (.ofA (.mv (.cst (.v (.pointer none)))))⟩
  (.seq ⟨some 7, none, (.ofA (.mv (.cst (.v (.int .i64 1)))))⟩
  .done)))
 .ret)
 .skip))
 (.seq (.tree (.take ⟨some 24, none, (.ofA (.faddr 4 (.tmp 5)))⟩
  (.take ⟨some 25, none, (.ofA (.load none (.tmp 24)))⟩
  (.take ⟨some 26, none, (.ofA (.len (.tmp 25)))⟩
  (.take ⟨some 27, none, (.ofA (.mv (.tmp 0)))⟩
  (.act true [(⟨some 28, none, (.call (.cst (.fn 54 [])) [(.tmp 27)])⟩,
 (.take ⟨some 29, none, (.ofA (.field 3 none (.tmp 28)))⟩
  (.act true [(⟨some 30, none, (.call (.cst (.fn 53 [])) [(.tmp 26), (.tmp 29)])⟩,
 (.take ⟨some 8, none, (.ofA (.mv (.tmp 30)))⟩
  .done))])))]))))))
 (.seq (.seq (.tree (.seq ⟨some 31, none, (.ofA (.mv (.tmp 8)))⟩
  (.seq ⟨some 32, none, (.ofA (.eqn false 1 (.tmp 31) (.cst (.v (.pointer none)))))⟩
  .done)))
 (.cond (.tmp 32)
 (.seq (.tree (.seq ⟨some 6, none, (.ofA (.mv (.cst (.v (.pointer none)))))⟩
  (.seq ⟨some 7, none, (.ofA (.mv (.cst (.v (.int .i64 1)))))⟩
  .done)))
 .ret)
 .skip))
 (.seq (.tree (.seq ⟨some 33, none, (.ofA (.faddr 4 (.tmp 5)))⟩
  (.seq ⟨some 34, none, (.ofA (.load none (.tmp 33)))⟩
  (.seq ⟨some 35, none, (.call (.cst (.fn 55 [])) [(.tmp 34)])⟩
  (.seq ⟨some 36, none, (.ofA (.faddr 4 (.tmp 5)))⟩
  (.seq ⟨none, none, (.store 1 (.tmp 36) (.tmp 35))⟩
  .done))))))
 (.seq (.tree (.take ⟨some 37, none, (.ofA (.mv (.tmp 0)))⟩
  (.take ⟨some 38, none, (.ofA (.mv (.tmp 1)))⟩
  (.take ⟨some 39, none, (.ofA (.load (some 5) (.tmp 5)))⟩
  (.take ⟨some 40, none, (.ofA (.mv (.tmp 8)))⟩
  (.act true [(⟨some 41, none, (.call (.cst (.fn 56 [])) [])⟩,
 (.act true [(⟨some 42, none, (.build [(.v (.pointer none)), (.v (.int .i64 0)), (.v (.bool false)), (.v (.int .i64 0)), (.v (.int .i64 0)), (.v (.int .i64 0)), (.v (.slice none 0 0)), (.v (.pointer none)), (.v (.pointer none)), (.v (.int .i64 0)), (.v (.int .i64 0)), (.v (.bool false))] [(0, 1, (.tmp 37)), (1, 1, (.tmp 38)), (2, 5, (.tmp 39)), (7, 1, (.tmp 40)), (8, 1, (.tmp 41)), (10, 1, (.cst (.v (.int .i64 (-1)))))])⟩,
 (.act true [(⟨some 43, none, (.box (.tmp 42))⟩,
 (.take ⟨some 6, none, (.ofA (.mv (.tmp 43)))⟩
  (.take ⟨some 7, none, (.ofA (.mv (.cst (.v (.int .i64 0)))))⟩
  .done)))]))]))]))))))
 .ret))))))
def r11 : List XR := [.tmp 6, .tmp 7]
theorem fn11 : FnX Tryz.prog 11 EFF 44 x11 r11 := ⟨_, Tryz.func11, by kernel_rfl, by kernel_rfl, by kernel_rfl, by kernel_rfl⟩
-- (*almshouse/store.Store).Write (3 parameters)
def x12 : XC := (.seq (.tree (.seq ⟨some 6, none, (.ofA (.mv (.cst (.v (.int .i64 0)))))⟩
  .done))
 (.seq (.tree (.seq ⟨some 7, none, (.ofA (.mv (.tmp 0)))⟩
  (.seq ⟨some 8, none, (.ofA (.mv (.tmp 1)))⟩
  (.seq ⟨some 9, none, (.ofA (.mv (.tmp 2)))⟩
  (.seq ⟨some 10, none, (.build [(.v (.int .i64 0)), (.v (.int .i64 0)), (.v (.string ⟨#[]⟩))] [(0, 1, (.tmp 8)), (1, 1, (.cst (.v (.int .i64 1)))), (2, 1, (.tmp 9))])⟩
  (.seq ⟨some 11, none, (.call (.cst (.fn 57 [])) [(.tmp 7), (.tmp 10)])⟩
  (.seq ⟨some 6, none, (.ofA (.mv (.tmp 11)))⟩
  .done)))))))
 .ret))
def r12 : List XR := [.tmp 6]
theorem fn12 : FnX Tryz.prog 12 EFF 12 x12 r12 := ⟨_, Tryz.func12, by kernel_rfl, by kernel_rfl, by kernel_rfl, by kernel_rfl⟩
-- (*almshouse/store.Store).Flush (1 parameters)
def x14 : XC := (.seq (.tree (.seq ⟨some 2, none, (.ofA (.mv (.cst (.v (.int .i64 0)))))⟩
  .done))
 (.seq (.block 0 (.seq (.tree (.seq ⟨some 5, none, (.ofA (.mv (.tmp 0)))⟩
  (.seq ⟨some 6, none, (.ofA (.eqn false 1 (.tmp 5) (.cst (.v (.pointer none)))))⟩
  (.seq ⟨some 4, none, (.ofA (.mv (.tmp 6)))⟩
  .done))))
 (.cond (.tmp 4)
 (.seq (.tree (.seq ⟨some 2, none, (.ofA (.mv (.cst (.v (.int .i64 1)))))⟩
  .done))
 .ret)
 (.seq (.tree (.seq ⟨some 8, none, (.ofA (.mv (.tmp 0)))⟩
  (.seq ⟨some 9, none, (.ofA (.nilc (.tmp 8)))⟩
  (.seq ⟨some 10, none, (.ofA (.faddr 11 (.tmp 9)))⟩
  (.seq ⟨some 11, none, (.ofA (.load none (.tmp 10)))⟩
  (.seq ⟨some 7, none, (.ofA (.mv (.tmp 11)))⟩
  .done))))))
 (.cond (.tmp 7)
 (.seq (.tree (.seq ⟨some 2, none, (.ofA (.mv (.cst (.v (.int .i64 13)))))⟩
  .done))
 .ret)
 .skip)))))
 (.seq (.block 1 (.loop (.seq (.seq (.tree (.seq ⟨some 12, none, (.ofA (.mv (.tmp 0)))⟩
  (.seq ⟨some 13, none, (.ofA (.nilc (.tmp 12)))⟩
  (.seq ⟨some 14, none, (.ofA (.faddr 8 (.tmp 13)))⟩
  (.seq ⟨some 15, none, (.ofA (.load none (.tmp 14)))⟩
  (.seq ⟨some 16, none, (.call (.cst (.fn 58 [])) [(.tmp 15)])⟩
  (.seq ⟨some 17, none, (.ofA (.bin .gtr (.tmp 16) (.cst (.v (.int .i64 0)))))⟩
  .done)))))))
 (.cond (.tmp 17)
 .skip
 (.exit 1)))
 (.block 2 (.seq (.tree (.seq ⟨some 18, none, (.ofA (.mv (.tmp 0)))⟩
  (.seq ⟨some 19, none, (.call (.cst (.fn 59 [])) [(.tmp 18)])⟩
  (.seq ⟨some 3, none, (.ofA (.mv (.tmp 19)))⟩
  .done))))
 (.seq (.tree (.seq ⟨some 20, none, (.ofA (.mv (.tmp 3)))⟩
  (.seq ⟨some 21, none, (.ofA (.bin .neq (.tmp 20) (.cst (.v (.int .i64 0)))))⟩
  .done)))
 (.cond (.tmp 21)
 (.seq (.tree (.seq ⟨some 22, none, (.ofA (.mv (.tmp 3)))⟩
  (.seq ⟨some 2, none, (.ofA (.mv (.tmp 22)))⟩
  .done)))
 .ret)
 .skip)))))))
 (.seq (.tree (.seq ⟨some 2, none, (.ofA (.mv (.cst (.v (.int .i64 0)))))⟩
  .done))
 .ret))))
def r14 : List XR := [.tmp 2]
theorem fn14 : FnX Tryz.prog 14 EFF 23 x14 r14 := ⟨_, Tryz.func14, by kernel_rfl, by kernel_rfl, by kernel_rfl, by kernel_rfl⟩
-- (*almshouse/store.Store).Free (1 parameters)
def x19 : XC := (.seq (.tree (.seq ⟨some 2, none, (.ofA (.mv (.cst (.v (.slice none 0 0)))))⟩
  .done))
 (.seq (.tree (.seq ⟨some 3, none, (.ofA (.mv (.cst (.v (.slice none 0 0)))))⟩
  .done))
 (.seq (.seq (.tree (.seq ⟨some 5, none, (.ofA (.mv (.tmp 0)))⟩
  (.seq ⟨some 6, none, (.call (.cst (.fn 23 [])) [(.tmp 5)])⟩
  (.seq ⟨some 7, none, (.ofA (.len (.tmp 6)))⟩
  (.seq ⟨some 8, none, (.ofA (.mv (.cst (.v (.int .i64 0)))))⟩
  .done)))))
 (.block 0 (.loop (.seq (.tree (.seq ⟨some 9, none, (.ofA (.bin .lss (.tmp 8) (.tmp 7)))⟩
  .done))
 (.seq (.cond (.tmp 9)
 .skip
 (.exit 0))
 (.seq (.block 1 (.seq (.tree (.seq ⟨some 10, none, (.ofA (.mv (.tmp 8)))⟩
  (.seq ⟨some 4, none, (.ofA (.mv (.tmp 10)))⟩
  .done)))
 (.seq (.tree (.seq ⟨some 11, none, (.ofA (.mv (.tmp 4)))⟩
  (.seq ⟨some 12, none, (.ofA (.mv (.tmp 0)))⟩
  (.seq ⟨some 13, none, (.ofA (.nilc (.tmp 12)))⟩
  (.seq ⟨some 14, none, (.ofA (.faddr 10 (.tmp 13)))⟩
  (.seq ⟨some 15, none, (.ofA (.load none (.tmp 14)))⟩
  (.seq ⟨some 16, none, (.ofA (.bin .neq (.tmp 11) (.tmp 15)))⟩
  (.seq ⟨some 17, none, (.ofA (.mv (.tmp 16)))⟩
  (.seq ⟨some 18, some (17, true), (.ofA (.mv (.tmp 0)))⟩
  (.seq ⟨some 19, some (17, true), (.ofA (.mv (.tmp 4)))⟩
  (.seq ⟨some 20, some (17, true), (.call (.cst (.fn 69 [])) [(.tmp 18), (.tmp 19)])⟩
  (.seq ⟨some 21, none, (.ofA (.pick (.tmp 17) (.tmp 20) (.cst (.v (.bool false)))))⟩
  .done))))))))))))
 (.cond (.tmp 21)
 (.tree (.seq ⟨some 22, none, (.ofA (.mv (.tmp 3)))⟩
  (.seq ⟨some 23, none, (.ofA (.mv (.tmp 4)))⟩
  (.seq ⟨some 24, none, (.buildSl 1 1 [(.v (.int .i64 0))] [(0, 1, (.tmp 23))])⟩
  (.seq ⟨some 25, none, (.app 1 8 (.tmp 22) (.tmp 24))⟩
  (.seq ⟨some 3, none, (.ofA (.mv (.tmp 25)))⟩
  .done))))))
 .skip))))
 (.tree (.seq ⟨some 26, none, (.ofA (.bin .add (.tmp 8) (.cst (.v (.int .i64 1)))))⟩
  (.seq ⟨some 8, none, (.ofA (.mv (.tmp 26)))⟩
  .done)))))))))
 (.seq (.tree (.seq ⟨some 27, none, (.ofA (.mv (.tmp 3)))⟩
  (.seq ⟨some 2, none, (.ofA (.mv (.tmp 27)))⟩
  .done)))
 .ret))))
def r19 : List XR := [.tmp 2]
theorem fn19 : FnX Tryz.prog 19 EFF 28 x19 r19 := ⟨_, Tryz.func19, by kernel_rfl, by kernel_rfl, by kernel_rfl, by kernel_rfl⟩
-- (*almshouse/store.Store).Bad (1 parameters)
def x20 : XC := (.seq (.tree (.seq ⟨some 2, none, (.ofA (.mv (.cst (.v (.int .i64 0)))))⟩
  .done))
 (.seq (.tree (.seq ⟨some 3, none, (.ofA (.mv (.cst (.v (.int .i64 0)))))⟩
  .done))
 (.seq (.seq (.tree (.seq ⟨some 5, none, (.ofA (.mv (.tmp 0)))⟩
  (.seq ⟨some 6, none, (.call (.cst (.fn 23 [])) [(.tmp 5)])⟩
  (.seq ⟨some 7, none, (.ofA (.len (.tmp 6)))⟩
  (.seq ⟨some 8, none, (.ofA (.mv (.cst (.v (.int .i64 0)))))⟩
  .done)))))
 (.block 0 (.loop (.seq (.tree (.seq ⟨some 9, none, (.ofA (.bin .lss (.tmp 8) (.tmp 7)))⟩
  .done))
 (.seq (.cond (.tmp 9)
 .skip
 (.exit 0))
 (.seq (.block 1 (.seq (.tree (.seq ⟨some 10, none, (.ofA (.mv (.tmp 8)))⟩
  (.seq ⟨some 4, none, (.ofA (.mv (.tmp 10)))⟩
  .done)))
 (.seq (.tree (.seq ⟨some 11, none, (.ofA (.mv (.tmp 0)))⟩
  (.seq ⟨some 12, none, (.ofA (.mv (.tmp 4)))⟩
  (.seq ⟨some 13, none, (.call (.cst (.fn 60 [])) [(.tmp 11), (.tmp 12)])⟩
  .done))))
 (.cond (.tmp 13)
 (.tree (.seq ⟨some 14, none, (.ofA (.mv (.tmp 3)))⟩
  (.seq ⟨some 15, none, (.ofA (.bin .add (.tmp 14) (.cst (.v (.int .i64 1)))))⟩
  (.seq ⟨some 3, none, (.ofA (.mv (.tmp 15)))⟩
  .done))))
 .skip))))
 (.tree (.seq ⟨some 16, none, (.ofA (.bin .add (.tmp 8) (.cst (.v (.int .i64 1)))))⟩
  (.seq ⟨some 8, none, (.ofA (.mv (.tmp 16)))⟩
  .done)))))))))
 (.seq (.tree (.seq ⟨some 17, none, (.ofA (.mv (.tmp 3)))⟩
  (.seq ⟨some 2, none, (.ofA (.mv (.tmp 17)))⟩
  .done)))
 .ret))))
def r20 : List XR := [.tmp 2]
theorem fn20 : FnX Tryz.prog 20 EFF 18 x20 r20 := ⟨_, Tryz.func20, by kernel_rfl, by kernel_rfl, by kernel_rfl, by kernel_rfl⟩
-- (*almshouse/store.Store).Blocks (1 parameters)
def x23 : XC := (.seq (.tree (.seq ⟨some 2, none, (.ofA (.mv (.cst (.v (.slice none 0 0)))))⟩
  .done))
 (.seq (.seq (.tree (.seq ⟨some 3, none, (.ofA (.mv (.tmp 0)))⟩
  (.seq ⟨some 4, none, (.ofA (.eqn false 1 (.tmp 3) (.cst (.v (.pointer none)))))⟩
  .done)))
 (.cond (.tmp 4)
 (.seq (.tree (.seq ⟨some 2, none, (.ofA (.mv (.cst (.v (.slice none 0 0)))))⟩
  .done))
 .ret)
 .skip))
 (.seq (.tree (.seq ⟨some 5, none, (.ofA (.mv (.tmp 0)))⟩
  (.seq ⟨some 6, none, (.ofA (.nilc (.tmp 5)))⟩
  (.seq ⟨some 7, none, (.ofA (.faddr 2 (.tmp 6)))⟩
  (.seq ⟨some 8, none, (.ofA (.faddr 4 (.tmp 7)))⟩
  (.seq ⟨some 9, none, (.ofA (.load none (.tmp 8)))⟩
  (.seq ⟨some 10, none, (.call (.cst (.fn 55 [])) [(.tmp 9)])⟩
  (.seq ⟨some 2, none, (.ofA (.mv (.tmp 10)))⟩
  .done))))))))
 .ret)))
def r23 : List XR := [.tmp 2]
theorem fn23 : FnX Tryz.prog 23 EFF 11 x23 r23 := ⟨_, Tryz.func23, by kernel_rfl, by kernel_rfl, by kernel_rfl, by kernel_rfl⟩
-- (*almshouse/house.House).Create (4 parameters)
def x29 : XC := (.seq (.tree (.seq ⟨some 4, none, (.box (.tmp 0))⟩
  (.seq ⟨some 5, none, (.box (.tmp 1))⟩
  (.seq ⟨some 8, none, (.ofA (.mv (.cst (.v (.int .i64 0)))))⟩
  .done))))
 (.seq (.seq (.tree (.seq ⟨some 16, none, (.ofA (.load none (.tmp 4)))⟩
  (.seq ⟨some 17, none, (.call (.cst (.fn 36 [])) [(.tmp 16)])⟩
  (.seq ⟨some 18, none, (.ofA (.un .not (.tmp 17)))⟩
  .done))))
 (.cond (.tmp 18)
 (.seq (.tree (.seq ⟨some 8, none, (.ofA (.mv (.cst (.v (.int .i64 12)))))⟩
  .done))
 .ret)
 .skip))
 (.seq (.seq (.tree (.take ⟨some 20, none, (.ofA (.load none (.tmp 4)))⟩
  (.take ⟨some 21, none, (.ofA (.nilc (.tmp 20)))⟩
  (.take ⟨some 22, none, (.ofA (.faddr 3 (.tmp 21)))⟩
  (.take ⟨some 23, none, (.ofA (.load (some 22) (.tmp 22)))⟩
  (.take ⟨some 24, none, (.ofA (.load none (.tmp 5)))⟩
  (.take ⟨some 25, none, (.ofA (.mv (.tmp 2)))⟩
  (.take ⟨some 26, none, (.ofA (.mv (.tmp 3)))⟩
  (.alt [false, true] [(⟨some 27, none, (.call (.cst (.fn 79 [])) [(.tmp 23), (.tmp 24), (.tmp 25), (.tmp 26), (.cst (.v (.slice none 0 0)))])⟩,
 (.take ⟨some 19, none, (.ofA (.mv (.tmp 27)))⟩
  (.take ⟨some 28, none, (.ofA (.extract 0 (.tmp 19)))⟩
  (.take ⟨some 29, none, (.ofA (.extract 1 (.tmp 19)))⟩
  (.alt [true] [(⟨some 9, none, (.alloc [(.v (.int .i64 0)), (.v (.int .i64 0)), (.v (.bool false)), (.v (.int .i64 0)), (.v (.int .i64 0)), (.v (.int .i64 0)), (.v (.slice none 0 0)), (.v (.bool false)), (.v (.int .i64 0)), (.v (.int .i64 0)), (.v (.int .i64 0)), (.v (.slice none 0 0)), (.v (.bool false)), (.v (.int .i64 0)), (.v (.int .i64 0)), (.v (.int .i64 0)), (.v (.slice none 0 0)), (.v (.bool false)), (.v (.int .i64 0)), (.v (.int .i64 0)), (.v (.int .i64 0)), (.v (.slice none 0 0))])⟩,
 (.alt [false] [(⟨none, none, (.store 22 (.tmp 9) (.tmp 28))⟩,
 (.take ⟨some 10, none, (.ofA (.mv (.tmp 29)))⟩
  .done))]))]))))), (⟨some 9, none, (.alloc [(.v (.int .i64 0)), (.v (.int .i64 0)), (.v (.bool false)), (.v (.int .i64 0)), (.v (.int .i64 0)), (.v (.int .i64 0)), (.v (.slice none 0 0)), (.v (.bool false)), (.v (.int .i64 0)), (.v (.int .i64 0)), (.v (.int .i64 0)), (.v (.slice none 0 0)), (.v (.bool false)), (.v (.int .i64 0)), (.v (.int .i64 0)), (.v (.int .i64 0)), (.v (.slice none 0 0)), (.v (.bool false)), (.v (.int .i64 0)), (.v (.int .i64 0)), (.v (.int .i64 0)), (.v (.slice none 0 0))])⟩,
 (.alt [false] [(⟨some 27, none, (.call (.cst (.fn 79 [])) [(.tmp 23), (.tmp 24), (.tmp 25), (.tmp 26), (.cst (.v (.slice none 0 0)))])⟩,
 (.take ⟨some 19, none, (.ofA (.mv (.tmp 27)))⟩
  (.take ⟨some 28, none, (.ofA (.extract 0 (.tmp 19)))⟩
  (.take ⟨some 29, none, (.ofA (.extract 1 (.tmp 19)))⟩
  (.alt [false] [(⟨none, none, (.store 22 (.tmp 9) (.tmp 28))⟩,
 (.take ⟨some 10, none, (.ofA (.mv (.tmp 29)))⟩
  .done))])))))]))])))))))))
 (.seq (.tree (.seq ⟨some 30, none, (.ofA (.mv (.tmp 10)))⟩
  (.seq ⟨some 31, none, (.ofA (.bin .neq (.tmp 30) (.cst (.v (.int .i64 0)))))⟩
  .done)))
 (.cond (.tmp 31)
 (.seq (.tree (.seq ⟨some 32, none, (.ofA (.mv (.tmp 10)))⟩
  (.seq ⟨some 8, none, (.ofA (.mv (.tmp 32)))⟩
  .done)))
 .ret)
 .skip)))
 (.seq (.tree (.take ⟨some 33, none, (.ofA (.load none (.tmp 4)))⟩
  (.take ⟨some 35, none, (.ofA (.mv (.tmp 2)))⟩
  (.take ⟨some 36, none, (.ofA (.mv (.tmp 3)))⟩
  (.take ⟨some 37, none, (.ofA (.load none (.tmp 4)))⟩
  (.act true [(⟨some 34, none, (.call (.cst (.fn 80 [])) [(.tmp 33)])⟩,
 (.act true [(⟨some 38, none, (.call (.cst (.fn 82 [])) [(.tmp 37)])⟩,
 (.act true [(⟨some 39, none, (.call (.cst (.fn 81 [])) [(.tmp 35), (.tmp 36), (.tmp 38)])⟩,
 (.take ⟨some 11, none, (.ofA (.mv (.tmp 34)))⟩
  (.take ⟨some 12, none, (.ofA (.mv (.tmp 39)))⟩
  .done)))]))]))]))))))
 (.seq (.seq (.tree (.seq ⟨some 40, none, (.ofA (.mv (.tmp 11)))⟩
  (.seq ⟨some 41, none, (.ofA (.len (.tmp 40)))⟩
  (.seq ⟨some 42, none, (.ofA (.mv (.tmp 12)))⟩
  (.seq ⟨some 43, none, (.ofA (.bin .lss (.tmp 41) (.tmp 42)))⟩
  .done)))))
 (.cond (.tmp 43)
 (.seq (.tree (.seq ⟨some 8, none, (.ofA (.mv (.cst (.v (.int .i64 8)))))⟩
  .done))
 .ret)
 .skip))
 (.seq (.tree (.seq ⟨some 44, none, (.ofA (.mv (.tmp 11)))⟩
  (.seq ⟨some 45, none, (.ofA (.mv (.tmp 12)))⟩
  (.seq ⟨some 46, none, (.ofA (.slc 1 (.tmp 44) none (some (.tmp 45))))⟩
  (.seq ⟨some 11, none, (.ofA (.mv (.tmp 46)))⟩
  .done)))))
 (.seq (.seq (.tree (.seq ⟨some 47, none, (.ofA (.load none (.tmp 4)))⟩
  (.seq ⟨some 48, none, (.ofA (.mv (.tmp 11)))⟩
  (.seq ⟨some 49, none, (.call (.cst (.fn 83 [])) [(.tmp 47), (.tmp 48)])⟩
  (.seq ⟨some 13, none, (.ofA (.mv (.tmp 49)))⟩
  .done)))))
 (.seq (.tree (.seq ⟨some 50, none, (.ofA (.mv (.tmp 13)))⟩
  (.seq ⟨some 51, none, (.ofA (.bin .neq (.tmp 50) (.cst (.v (.int .i64 0)))))⟩
  .done)))
 (.cond (.tmp 51)
 (.seq (.tree (.seq ⟨some 52, none, (.ofA (.load none (.tmp 4)))⟩
  (.seq ⟨some 53, none, (.call (.cst (.fn 73 [])) [(.tmp 52)])⟩
  .done)))
 (.seq (.tree (.seq ⟨some 54, none, (.ofA (.mv (.tmp 13)))⟩
  (.seq ⟨some 8, none, (.ofA (.mv (.tmp 54)))⟩
  .done)))
 .ret))
 .skip)))
 (.seq (.tree (.take ⟨some 56, none, (.ofA (.load none (.tmp 4)))⟩
  (.take ⟨some 57, none, (.ofA (.nilc (.tmp 56)))⟩
  (.take ⟨some 58, none, (.ofA (.faddr 3 (.tmp 57)))⟩
  (.take ⟨some 59, none, (.ofA (.load (some 22) (.tmp 58)))⟩
  (.take ⟨some 60, none, (.ofA (.load none (.tmp 5)))⟩
  (.take ⟨some 61, none, (.ofA (.mv (.tmp 2)))⟩
  (.take ⟨some 62, none, (.ofA (.mv (.tmp 3)))⟩
  (.take ⟨some 63, none, (.ofA (.mv (.tmp 11)))⟩
  (.alt [false, true] [(⟨some 64, none, (.call (.cst (.fn 79 [])) [(.tmp 59), (.tmp 60), (.tmp 61), (.tmp 62), (.tmp 63)])⟩,
 (.take ⟨some 55, none, (.ofA (.mv (.tmp 64)))⟩
  (.take ⟨some 65, none, (.ofA (.extract 0 (.tmp 55)))⟩
  (.take ⟨some 66, none, (.ofA (.extract 1 (.tmp 55)))⟩
  (.alt [true] [(⟨some 14, none, (.alloc [(.v (.int .i64 0)), (.v (.int .i64 0)), (.v (.bool false)), (.v (.int .i64 0)), (.v (.int .i64 0)), (.v (.int .i64 0)), (.v (.slice none 0 0)), (.v (.bool false)), (.v (.int .i64 0)), (.v (.int .i64 0)), (.v (.int .i64 0)), (.v (.slice none 0 0)), (.v (.bool false)), (.v (.int .i64 0)), (.v (.int .i64 0)), (.v (.int .i64 0)), (.v (.slice none 0 0)), (.v (.bool false)), (.v (.int .i64 0)), (.v (.int .i64 0)), (.v (.int .i64 0)), (.v (.slice none 0 0))])⟩,
 (.alt [false] [(⟨none, none, (.store 22 (.tmp 14) (.tmp 65))⟩,
 (.take ⟨some 15, none, (.ofA (.mv (.tmp 66)))⟩
  .done))]))]))))), (⟨some 14, none, (.alloc [(.v (.int .i64 0)), (.v (.int .i64 0)), (.v (.bool false)), (.v (.int .i64 0)), (.v (.int .i64 0)), (.v (.int .i64 0)), (.v (.slice none 0 0)), (.v (.bool false)), (.v (.int .i64 0)), (.v (.int .i64 0)), (.v (.int .i64 0)), (.v (.slice none 0 0)), (.v (.bool false)), (.v (.int .i64 0)), (.v (.int .i64 0)), (.v (.int .i64 0)), (.v (.slice none 0 0)), (.v (.bool false)), (.v (.int .i64 0)), (.v (.int .i64 0)), (.v (.int .i64 0)), (.v (.slice none 0 0))])⟩,
 (.alt [false] [(⟨some 64, none, (.call (.cst (.fn 79 [])) [(.tmp 59), (.tmp 60), (.tmp 61), (.tmp 62), (.tmp 63)])⟩,
 (.take ⟨some 55, none, (.ofA (.mv (.tmp 64)))⟩
  (.take ⟨some 65, none, (.ofA (.extract 0 (.tmp 55)))⟩
  (.take ⟨some 66, none, (.ofA (.extract 1 (.tmp 55)))⟩
  (.alt [false] [(⟨none, none, (.store 22 (.tmp 14) (.tmp 65))⟩,
 (.take ⟨some 15, none, (.ofA (.mv (.tmp 66)))⟩
  .done))])))))]))]))))))))))
 (.seq (.tree (.seq ⟨some 67, none, (.ofA (.load none (.tmp 4)))⟩
  (.seq ⟨some 68, none, (.ofA (.load (some 22) (.tmp 14)))⟩
  (.seq ⟨some 69, none, (.ofA (.mv (.tmp 15)))⟩
  (.seq ⟨some 70, none, (.ofA (.mkfn 85 [(.tmp 4), (.tmp 5), (.tmp 14)]))⟩
  (.seq ⟨some 71, none, (.call (.cst (.fn 84 [])) [(.tmp 67), (.tmp 68), (.tmp 69), (.tmp 70)])⟩
  (.seq ⟨some 8, none, (.ofA (.mv (.tmp 71)))⟩
  .done)))))))
 .ret)))))))))
def r29 : List XR := [.tmp 8]
theorem fn29 : FnX Tryz.prog 29 EFF 72 x29 r29 := ⟨_, Tryz.func29, by kernel_rfl, by kernel_rfl, by kernel_rfl, by kernel_rfl⟩
-- (*almshouse/house.House).Submit (3 parameters)
def x33 : XC := (.seq (.tree (.seq ⟨some 5, none, (.box (.tmp 2))⟩
  (.seq ⟨some 6, none, (.ofA (.mv (.cst (.v (.int .i64 0)))))⟩
  .done)))
 (.seq (.seq (.tree (.seq ⟨some 8, none, (.ofA (.mv (.tmp 0)))⟩
  (.seq ⟨some 9, none, (.ofA (.mv (.tmp 1)))⟩
  (.seq ⟨some 10, none, (.call (.cst (.fn 75 [])) [(.tmp 8), (.tmp 9)])⟩
  (.seq ⟨some 7, none, (.ofA (.mv (.tmp 10)))⟩
  .done)))))
 (.seq (.tree (.seq ⟨some 11, none, (.ofA (.mv (.tmp 7)))⟩
  (.seq ⟨some 12, none, (.ofA (.bin .neq (.tmp 11) (.cst (.v (.int .i64 0)))))⟩
  .done)))
 (.cond (.tmp 12)
 (.seq (.tree (.seq ⟨some 13, none, (.ofA (.mv (.tmp 7)))⟩
  (.seq ⟨some 6, none, (.ofA (.mv (.tmp 13)))⟩
  .done)))
 .ret)
 .skip)))
 (.seq (.tree (.take ⟨some 14, none, (.ofA (.mv (.tmp 0)))⟩
  (.take ⟨some 15, none, (.ofA (.mv (.tmp 1)))⟩
  (.take ⟨some 16, none, (.ofA (.nilc (.tmp 14)))⟩
  (.take ⟨some 17, none, (.ofA (.faddr 25 (.tmp 16)))⟩
  (.take ⟨some 18, none, (.ofA (.iarr 4 2 (.tmp 17) (.tmp 15)))⟩
  (.take ⟨some 19, none, (.ofA (.faddr 1 (.tmp 18)))⟩
  (.take ⟨some 20, none, (.ofA (.load none (.tmp 19)))⟩
  (.take ⟨some 21, none, (.ofA (.load (some 3) (.tmp 5)))⟩
  (.alt [false] [(⟨some 22, none, (.call (.cst (.fn 96 [])) [(.tmp 20), (.tmp 21)])⟩,
 (.take ⟨some 6, none, (.ofA (.mv (.tmp 22)))⟩
  .done))]))))))))))
 .ret)))
def r33 : List XR := [.tmp 6]
theorem fn33 : FnX Tryz.prog 33 EFF 23 x33 r33 := ⟨_, Tryz.func33, by kernel_rfl, by kernel_rfl, by kernel_rfl, by kernel_rfl⟩
-- (*almshouse/house.House).Slot (1 parameters)
def x35 : XC := (.seq (.tree (.seq ⟨some 2, none, (.ofA (.mv (.cst (.v (.bool false)))))⟩
  .done))
 (.seq (.seq (.tree (.seq ⟨some 9, none, (.ofA (.mv (.tmp 0)))⟩
  (.seq ⟨some 10, none, (.call (.cst (.fn 36 [])) [(.tmp 9)])⟩
  (.seq ⟨some 11, none, (.ofA (.un .not (.tmp 10)))⟩
  .done))))
 (.cond (.tmp 11)
 (.seq (.tree (.seq ⟨some 2, none, (.ofA (.mv (.cst (.v (.bool false)))))⟩
  .done))
 .ret)
 .skip))
 (.seq (.tree (.seq ⟨some 12, none, (.ofA (.mv (.tmp 0)))⟩
  (.seq ⟨some 13, none, (.ofA (.nilc (.tmp 12)))⟩
  (.seq ⟨some 14, none, (.ofA (.faddr 33 (.tmp 13)))⟩
  (.seq ⟨some 15, none, (.ofA (.load none (.tmp 14)))⟩
  (.seq ⟨some 3, none, (.ofA (.mv (.tmp 15)))⟩
  .done))))))
 (.seq (.tree (.seq ⟨some 16, none, (.ofA (.mv (.tmp 0)))⟩
  (.seq ⟨some 17, none, (.ofA (.nilc (.tmp 16)))⟩
  (.seq ⟨some 18, none, (.ofA (.faddr 33 (.tmp 17)))⟩
  (.seq ⟨some 19, none, (.ofA (.load none (.tmp 18)))⟩
  (.seq ⟨some 20, none, (.ofA (.bin .add (.tmp 19) (.cst (.v (.int .i64 1)))))⟩
  (.seq ⟨some 21, none, (.ofA (.nilc (.tmp 16)))⟩
  (.seq ⟨some 22, none, (.ofA (.faddr 33 (.tmp 21)))⟩
  (.seq ⟨none, none, (.store 1 (.tmp 22) (.tmp 20))⟩
  .done)))))))))
 (.seq (.tree (.seq ⟨some 23, none, (.ofA (.mv (.tmp 3)))⟩
  (.seq ⟨some 24, none, (.ofA (.bin .rem (.tmp 23) (.cst (.v (.int .i64 4)))))⟩
  (.seq ⟨some 4, none, (.ofA (.mv (.tmp 24)))⟩
  .done))))
 (.seq (.seq (.tree (.seq ⟨some 25, none, (.ofA (.mv (.tmp 0)))⟩
  (.seq ⟨some 26, none, (.ofA (.mv (.tmp 4)))⟩
  (.seq ⟨some 27, none, (.call (.cst (.fn 75 [])) [(.tmp 25), (.tmp 26)])⟩
  (.seq ⟨some 28, none, (.ofA (.bin .neq (.tmp 27) (.cst (.v (.int .i64 0)))))⟩
  .done)))))
 (.cond (.tmp 28)
 (.seq (.tree (.seq ⟨some 2, none, (.ofA (.mv (.cst (.v (.bool false)))))⟩
  .done))
 .ret)
 .skip))
 (.seq (.tree (.seq ⟨some 30, none, (.ofA (.mv (.tmp 0)))⟩
  (.seq ⟨some 31, none, (.ofA (.mv (.tmp 4)))⟩
  (.seq ⟨some 32, none, (.ofA (.nilc (.tmp 30)))⟩
  (.seq ⟨some 33, none, (.ofA (.faddr 25 (.tmp 32)))⟩
  (.seq ⟨some 34, none, (.ofA (.iarr 4 2 (.tmp 33) (.tmp 31)))⟩
  (.seq ⟨some 35, none, (.ofA (.faddr 1 (.tmp 34)))⟩
  (.seq ⟨some 36, none, (.ofA (.load none (.tmp 35)))⟩
  (.seq ⟨some 37, none, (.call (.cst (.fn 100 [])) [(.tmp 36)])⟩
  (.seq ⟨some 29, none, (.ofA (.mv (.tmp 37)))⟩
  (.seq ⟨some 38, none, (.ofA (.extract 0 (.tmp 29)))⟩
  (.seq ⟨some 39, none, (.ofA (.extract 1 (.tmp 29)))⟩
  (.seq ⟨some 5, none, (.alloc [(.v (.int .i64 0)), (.v (.int .i64 0)), (.v (.string ⟨#[]⟩))])⟩
  (.seq ⟨none, none, (.store 3 (.tmp 5) (.tmp 38))⟩
  (.seq ⟨some 6, none, (.ofA (.mv (.tmp 39)))⟩
  .done)))))))))))))))
 (.seq (.seq (.tree (.seq ⟨some 40, none, (.ofA (.mv (.tmp 6)))⟩
  (.seq ⟨some 41, none, (.ofA (.un .not (.tmp 40)))⟩
  .done)))
 (.cond (.tmp 41)
 (.seq (.tree (.seq ⟨some 2, none, (.ofA (.mv (.cst (.v (.bool false)))))⟩
  .done))
 .ret)
 .skip))
 (.seq (.tree (.take ⟨some 43, none, (.ofA (.mv (.tmp 0)))⟩
  (.take ⟨some 44, none, (.ofA (.mv (.tmp 4)))⟩
  (.take ⟨some 45, none, (.ofA (.nilc (.tmp 43)))⟩
  (.take ⟨some 46, none, (.ofA (.faddr 25 (.tmp 45)))⟩
  (.take ⟨some 47, none, (.ofA (.iarr 4 2 (.tmp 46) (.tmp 44)))⟩
  (.take ⟨some 48, none, (.ofA (.faddr 0 (.tmp 47)))⟩
  (.take ⟨some 49, none, (.ofA (.load none (.tmp 48)))⟩
  (.take ⟨some 50, none, (.ofA (.load (some 3) (.tmp 5)))⟩
  (.alt [false] [(⟨some 51, none, (.call (.cst (.fn 101 [])) [(.tmp 49), (.tmp 50)])⟩,
 (.take ⟨some 42, none, (.ofA (.mv (.tmp 51)))⟩
  (.take ⟨some 52, none, (.ofA (.extract 0 (.tmp 42)))⟩
  (.take ⟨some 53, none, (.ofA (.extract 1 (.tmp 42)))⟩
  (.take ⟨some 7, none, (.ofA (.mv (.tmp 52)))⟩
  (.take ⟨some 8, none, (.ofA (.mv (.tmp 53)))⟩
  .done))))))]))))))))))
 (.seq (.seq (.tree (.seq ⟨some 54, none, (.ofA (.mv (.tmp 8)))⟩
  (.seq ⟨some 55, none, (.ofA (.bin .neq (.tmp 54) (.cst (.v (.int .i64 12)))))⟩
  .done)))
 (.cond (.tmp 55)
 (.tree (.seq ⟨some 56, none, (.ofA (.mv (.tmp 0)))⟩
  (.seq ⟨some 57, none, (.ofA (.mv (.tmp 4)))⟩
  (.seq ⟨some 58, none, (.ofA (.nilc (.tmp 56)))⟩
  (.seq ⟨some 59, none, (.ofA (.faddr 25 (.tmp 58)))⟩
  (.seq ⟨some 60, none, (.ofA (.iarr 4 2 (.tmp 59) (.tmp 57)))⟩
  (.seq ⟨some 61, none, (.ofA (.faddr 1 (.tmp 60)))⟩
  (.seq ⟨some 62, none, (.ofA (.load none (.tmp 61)))⟩
  (.seq ⟨some 63, none, (.ofA (.mv (.tmp 3)))⟩
  (.seq ⟨some 64, none, (.ofA (.mv (.tmp 8)))⟩
  (.seq ⟨some 65, none, (.ofA (.mv (.tmp 7)))⟩
  (.seq ⟨some 66, none, (.build [(.v (.int .i64 0)), (.v (.int .i64 0)), (.v (.string ⟨#[]⟩))] [(0, 1, (.tmp 63)), (1, 1, (.tmp 64)), (2, 1, (.tmp 65))])⟩
  (.seq ⟨some 67, none, (.call (.cst (.fn 102 [])) [(.tmp 62), (.tmp 66)])⟩
  .done)))))))))))))
 .skip))
 (.seq (.tree (.seq ⟨some 68, none, (.ofA (.mv (.tmp 0)))⟩
  (.seq ⟨some 69, none, (.call (.cst (.fn 73 [])) [(.tmp 68)])⟩
  .done)))
 (.seq (.tree (.seq ⟨some 70, none, (.ofA (.mv (.tmp 8)))⟩
  (.seq ⟨some 71, none, (.ofA (.bin .neq (.tmp 70) (.cst (.v (.int .i64 12)))))⟩
  (.seq ⟨some 2, none, (.ofA (.mv (.tmp 71)))⟩
  .done))))
 .ret))))))))))))
def r35 : List XR := [.tmp 2]
theorem fn35 : FnX Tryz.prog 35 EFF 72 x35 r35 := ⟨_, Tryz.func35, by kernel_rfl, by kernel_rfl, by kernel_rfl, by kernel_rfl⟩
-- (*almshouse/house.House).Up (1 parameters)
def x36 : XC := (.seq (.tree (.seq ⟨some 2, none, (.ofA (.mv (.cst (.v (.bool false)))))⟩
  .done))
 (.seq (.tree (.seq ⟨some 3, none, (.ofA (.mv (.tmp 0)))⟩
  (.seq ⟨some 4, none, (.ofA (.eqn true 1 (.tmp 3) (.cst (.v (.pointer none)))))⟩
  (.seq ⟨some 5, none, (.ofA (.mv (.tmp 4)))⟩
  (.seq ⟨some 6, some (5, true), (.ofA (.mv (.tmp 0)))⟩
  (.seq ⟨some 7, some (5, true), (.ofA (.nilc (.tmp 6)))⟩
  (.seq ⟨some 8, some (5, true), (.ofA (.faddr 34 (.tmp 7)))⟩
  (.seq ⟨some 9, some (5, true), (.ofA (.load none (.tmp 8)))⟩
  (.seq ⟨some 10, none, (.ofA (.pick (.tmp 5) (.tmp 9) (.cst (.v (.bool false)))))⟩
  (.seq ⟨some 2, none, (.ofA (.mv (.tmp 10)))⟩
  .done))))))))))
 .ret))
def r36 : List XR := [.tmp 2]
theorem fn36 : FnX Tryz.prog 36 EFF 11 x36 r36 := ⟨_, Tryz.func36, by kernel_rfl, by kernel_rfl, by kernel_rfl, by kernel_rfl⟩
-- (*almshouse/house.House).Done (2 parameters)
def x39 : XC := (.seq (.tree (.seq ⟨some 4, none, (.ofA (.mv (.cst (.v (.slice none 0 0)))))⟩
  .done))
 (.seq (.seq (.tree (.seq ⟨some 5, none, (.ofA (.mv (.tmp 0)))⟩
  (.seq ⟨some 6, none, (.ofA (.eqn false 1 (.tmp 5) (.cst (.v (.pointer none)))))⟩
  (.seq ⟨some 7, none, (.ofA (.mv (.tmp 6)))⟩
  (.seq ⟨some 8, some (7, false), (.ofA (.mv (.tmp 1)))⟩
  (.seq ⟨some 9, some (7, false), (.ofA (.bin .lss (.tmp 8) (.cst (.v (.int .i64 0)))))⟩
  (.seq ⟨some 10, none, (.ofA (.pick (.tmp 7) (.cst (.v (.bool true))) (.tmp 9)))⟩
  (.seq ⟨some 11, none, (.ofA (.mv (.tmp 10)))⟩
  (.seq ⟨some 12, some (11, false), (.ofA (.mv (.tmp 1)))⟩
  (.seq ⟨some 13, some (11, false), (.ofA (.bin .geq (.tmp 12) (.cst (.v (.int .i64 4)))))⟩
  (.seq ⟨some 14, none, (.ofA (.pick (.tmp 11) (.cst (.v (.bool true))) (.tmp 13)))⟩
  .done)))))))))))
 (.cond (.tmp 14)
 (.seq (.tree (.seq ⟨some 4, none, (.ofA (.mv (.cst (.v (.slice none 0 0)))))⟩
  .done))
 .ret)
 .skip))
 (.seq (.tree (.seq ⟨some 15, none, (.ofA (.mv (.tmp 0)))⟩
  (.seq ⟨some 16, none, (.ofA (.mv (.tmp 1)))⟩
  (.seq ⟨some 17, none, (.ofA (.nilc (.tmp 15)))⟩
  (.seq ⟨some 18, none, (.ofA (.faddr 25 (.tmp 17)))⟩
  (.seq ⟨some 19, none, (.ofA (.iarr 4 2 (.tmp 18) (.tmp 16)))⟩
  (.seq ⟨some 20, none, (.ofA (.faddr 1 (.tmp 19)))⟩
  (.seq ⟨some 21, none, (.ofA (.load none (.tmp 20)))⟩
  (.seq ⟨some 22, none, (.call (.cst (.fn 104 [])) [(.tmp 21)])⟩
  (.seq ⟨some 4, none, (.ofA (.mv (.tmp 22)))⟩
  .done))))))))))
 .ret)))
def r39 : List XR := [.tmp 4]
theorem fn39 : FnX Tryz.prog 39 EFF 23 x39 r39 := ⟨_, Tryz.func39, by kernel_rfl, by kernel_rfl, by kernel_rfl, by kernel_rfl⟩
-- (*almshouse/house.House).Array (1 parameters)
def x40 : XC := (.seq (.tree (.seq ⟨some 2, none, (.ofA (.mv (.cst (.v (.pointer none)))))⟩
  .done))
 (.seq (.seq (.tree (.seq ⟨some 3, none, (.ofA (.mv (.tmp 0)))⟩
  (.seq ⟨some 4, none, (.ofA (.eqn false 1 (.tmp 3) (.cst (.v (.pointer none)))))⟩
  .done)))
 (.cond (.tmp 4)
 (.seq (.tree (.seq ⟨some 2, none, (.ofA (.mv (.cst (.v (.pointer none)))))⟩
  .done))
 .ret)
 .skip))
 (.seq (.tree (.seq ⟨some 5, none, (.ofA (.mv (.tmp 0)))⟩
  (.seq ⟨some 6, none, (.ofA (.nilc (.tmp 5)))⟩
  (.seq ⟨some 7, none, (.ofA (.faddr 0 (.tmp 6)))⟩
  (.seq ⟨some 8, none, (.ofA (.load none (.tmp 7)))⟩
  (.seq ⟨some 2, none, (.ofA (.mv (.tmp 8)))⟩
  .done))))))
 .ret)))
def r40 : List XR := [.tmp 2]
theorem fn40 : FnX Tryz.prog 40 EFF 9 x40 r40 := ⟨_, Tryz.func40, by kernel_rfl, by kernel_rfl, by kernel_rfl, by kernel_rfl⟩
-- (*almshouse/house.House).Ledger (1 parameters)
def x42 : XC := (.seq (.tree (.seq ⟨some 2, none, (.alloc [(.v (.int .i64 0)), (.v (.int .i64 0)), (.v (.bool false)), (.v (.int .i64 0)), (.v (.int .i64 0)), (.v (.int .i64 0)), (.v (.slice none 0 0)), (.v (.bool false)), (.v (.int .i64 0)), (.v (.int .i64 0)), (.v (.int .i64 0)), (.v (.slice none 0 0)), (.v (.bool false)), (.v (.int .i64 0)), (.v (.int .i64 0)), (.v (.int .i64 0)), (.v (.slice none 0 0)), (.v (.bool false)), (.v (.int .i64 0)), (.v (.int .i64 0)), (.v (.int .i64 0)), (.v (.slice none 0 0))])⟩
  .done))
 (.seq (.seq (.tree (.seq ⟨some 3, none, (.ofA (.mv (.tmp 0)))⟩
  (.seq ⟨some 4, none, (.ofA (.eqn false 1 (.tmp 3) (.cst (.v (.pointer none)))))⟩
  .done)))
 (.cond (.tmp 4)
 (.seq (.tree (.seq ⟨some 5, none, (.build [(.v (.int .i64 0)), (.v (.int .i64 0)), (.v (.bool false)), (.v (.int .i64 0)), (.v (.int .i64 0)), (.v (.int .i64 0)), (.v (.slice none 0 0)), (.v (.bool false)), (.v (.int .i64 0)), (.v (.int .i64 0)), (.v (.int .i64 0)), (.v (.slice none 0 0)), (.v (.bool false)), (.v (.int .i64 0)), (.v (.int .i64 0)), (.v (.int .i64 0)), (.v (.slice none 0 0)), (.v (.bool false)), (.v (.int .i64 0)), (.v (.int .i64 0)), (.v (.int .i64 0)), (.v (.slice none 0 0))] [])⟩
  (.seq ⟨none, none, (.store 22 (.tmp 2) (.tmp 5))⟩
  .done)))
 .ret)
 .skip))
 (.seq (.tree (.seq ⟨some 6, none, (.ofA (.mv (.tmp 0)))⟩
  (.seq ⟨some 7, none, (.ofA (.nilc (.tmp 6)))⟩
  (.seq ⟨some 8, none, (.ofA (.faddr 3 (.tmp 7)))⟩
  (.seq ⟨some 9, none, (.ofA (.load (some 22) (.tmp 8)))⟩
  (.seq ⟨some 10, none, (.call (.cst (.fn 105 [])) [(.tmp 9)])⟩
  (.seq ⟨none, none, (.store 22 (.tmp 2) (.tmp 10))⟩
  .done)))))))
 .ret)))
def r42 : List XR := [.cell 2 (some 22)]
theorem fn42 : FnX Tryz.prog 42 EFF 11 x42 r42 := ⟨_, Tryz.func42, by kernel_rfl, by kernel_rfl, by kernel_rfl, by kernel_rfl⟩
-- almshouse/almshouselaw45.fixed (0 parameters)
def x43 : XC := (.seq (.tree (.seq ⟨some 0, none, (.ofA (.mv (.cst (.v (.bool false)))))⟩
  .done))
 (.seq (.tree (.seq ⟨some 8, none, (.build [(.v (.int .i64 0)), (.v (.int .i64 0)), (.v (.int .i64 0)), (.v (.int .i64 0)), (.v (.int .i64 0)), (.v (.int .i64 0)), (.v (.int .i64 0)), (.v (.string ⟨#[]⟩))] [(0, 1, (.cst (.v (.int .i64 1)))), (1, 1, (.cst (.v (.int .i64 1)))), (3, 1, (.cst (.v (.int .i64 3))))])⟩
  (.seq ⟨some 9, none, (.build [(.v (.int .i64 0)), (.v (.int .i64 0)), (.v (.string ⟨#[]⟩))] [(0, 1, (.cst (.v (.int .i64 2)))), (2, 1, (.cst (.v (.string ⟨#[120]⟩))))])⟩
  (.seq ⟨some 10, none, (.build [(.v (.int .i64 0)), (.v (.int .i64 0)), (.v (.int .i64 0)), (.v (.int .i64 0)), (.v (.int .i64 0)), (.v (.int .i64 0)), (.v (.int .i64 0)), (.v (.string ⟨#[]⟩))] [(0, 1, (.cst (.v (.int .i64 5)))), (1, 1, (.cst (.v (.int .i64 1)))), (5, 3, (.tmp 9))])⟩
  (.seq ⟨some 11, none, (.build [(.v (.int .i64 0)), (.v (.int .i64 0)), (.v (.string ⟨#[]⟩))] [(0, 1, (.cst (.v (.int .i64 4))))])⟩
  (.seq ⟨some 12, none, (.build [(.v (.int .i64 0)), (.v (.int .i64 0)), (.v (.int .i64 0)), (.v (.int .i64 0)), (.v (.int .i64 0)), (.v (.int .i64 0)), (.v (.int .i64 0)), (.v (.string ⟨#[]⟩))] [(0, 1, (.cst (.v (.int .i64 5)))), (1, 1, (.cst (.v (.int .i64 1)))), (5, 3, (.tmp 11))])⟩
  (.seq ⟨some 13, none, (.build [(.v (.int .i64 0)), (.v (.int .i64 0)), (.v (.string ⟨#[]⟩))] [(0, 1, (.cst (.v (.int .i64 1))))])⟩
  (.seq ⟨some 14, none, (.build [(.v (.int .i64 0)), (.v (.int .i64 0)), (.v (.int .i64 0)), (.v (.int .i64 0)), (.v (.int .i64 0)), (.v (.int .i64 0)), (.v (.int .i64 0)), (.v (.string ⟨#[]⟩))] [(0, 1, (.cst (.v (.int .i64 5)))), (1, 1, (.cst (.v (.int .i64 1)))), (5, 3, (.tmp 13))])⟩
  (.seq ⟨some 15, none, (.build [(.v (.int .i64 0)), (.v (.int .i64 0)), (.v (.int .i64 0)), (.v (.int .i64 0)), (.v (.int .i64 0)), (.v (.int .i64 0)), (.v (.int .i64 0)), (.v (.string ⟨#[]⟩))] [(0, 1, (.cst (.v (.int .i64 6)))), (3, 1, (.cst (.v (.int .i64 16))))])⟩
  (.seq ⟨some 16, none, (.buildSl 8 5 [(.v (.int .i64 0)), (.v (.int .i64 0)), (.v (.int .i64 0)), (.v (.int .i64 0)), (.v (.int .i64 0)), (.v (.int .i64 0)), (.v (.int .i64 0)), (.v (.string ⟨#[]⟩)), (.v (.int .i64 0)), (.v (.int .i64 0)), (.v (.int .i64 0)), (.v (.int .i64 0)), (.v (.int .i64 0)), (.v (.int .i64 0)), (.v (.int .i64 0)), (.v (.string ⟨#[]⟩)), (.v (.int .i64 0)), (.v (.int .i64 0)), (.v (.int .i64 0)), (.v (.int .i64 0)), (.v (.int .i64 0)), (.v (.int .i64 0)), (.v (.int .i64 0)), (.v (.string ⟨#[]⟩)), (.v (.int .i64 0)), (.v (.int .i64 0)), (.v (.int .i64 0)), (.v (.int .i64 0)), (.v (.int .i64 0)), (.v (.int .i64 0)), (.v (.int .i64 0)), (.v (.string ⟨#[]⟩)), (.v (.int .i64 0)), (.v (.int .i64 0)), (.v (.int .i64 0)), (.v (.int .i64 0)), (.v (.int .i64 0)), (.v (.int .i64 0)), (.v (.int .i64 0)), (.v (.string ⟨#[]⟩))] [(0, 8, (.tmp 8)), (8, 8, (.tmp 10)), (16, 8, (.tmp 12)), (24, 8, (.tmp 14)), (32, 8, (.tmp 15))])⟩
  (.seq ⟨some 1, none, (.ofA (.mv (.tmp 16)))⟩
  .done)))))))))))
 (.seq (.tree (.seq ⟨some 17, none, (.ofA (.mv (.tmp 1)))⟩
  (.seq ⟨some 18, none, (.call (.cst (.fn 44 [])) [(.tmp 17)])⟩
  (.seq ⟨some 2, none, (.ofA (.mv (.tmp 18)))⟩
  .done))))
 (.seq (.seq (.tree (.seq ⟨some 19, none, (.ofA (.mv (.tmp 2)))⟩
  (.seq ⟨some 20, none, (.ofA (.len (.tmp 19)))⟩
  (.seq ⟨some 21, none, (.ofA (.mv (.tmp 1)))⟩
  (.seq ⟨some 22, none, (.ofA (.len (.tmp 21)))⟩
  (.seq ⟨some 23, none, (.ofA (.bin .neq (.tmp 20) (.tmp 22)))⟩
  .done))))))
 (.cond (.tmp 23)
 (.seq (.tree (.seq ⟨some 0, none, (.ofA (.mv (.cst (.v (.bool false)))))⟩
  .done))
 .ret)
 .skip))
 (.seq (.tree (.seq ⟨some 25, none, (.build [(.v (.int .i64 0)), (.v (.int .i64 0)), (.v (.int .i64 0)), (.v (.int .i64 0))] [(0, 1, (.cst (.v (.int .i64 1)))), (1, 1, (.cst (.v (.int .i64 1)))), (2, 1, (.cst (.v (.int .i64 9)))), (3, 1, (.cst (.v (.int .i64 4))))])⟩
  (.seq ⟨some 26, none, (.build [(.v (.int .i64 0)), (.v (.int .i64 0)), (.v (.int .i64 0)), (.v (.int .i64 0)), (.v (.slice none 0 0)), (.v (.slice none 0 0)), (.v (.slice none 0 0)), (.v (.slice none 0 0)), (.v (.slice none 0 0))] [(0, 4, (.tmp 25))])⟩
  (.seq ⟨some 27, none, (.ofA (.mv (.tmp 2)))⟩
  (.seq ⟨some 28, none, (.call (.cst (.fn 106 [])) [(.tmp 26), (.tmp 27)])⟩
  (.seq ⟨some 24, none, (.ofA (.mv (.tmp 28)))⟩
  (.seq ⟨some 29, none, (.ofA (.extract 0 (.tmp 24)))⟩
  (.seq ⟨some 30, none, (.ofA (.extract 1 (.tmp 24)))⟩
  (.seq ⟨some 31, none, (.ofA (.extract 2 (.tmp 24)))⟩
  (.seq ⟨some 3, none, (.ofA (.mv (.tmp 29)))⟩
  (.seq ⟨some 4, none, (.ofA (.mv (.tmp 30)))⟩
  (.seq ⟨some 5, none, (.ofA (.mv (.tmp 31)))⟩
  .done))))))))))))
 (.seq (.tree (.seq ⟨some 32, none, (.ofA (.mv (.tmp 3)))⟩
  (.seq ⟨some 33, none, (.call (.cst (.fn 107 [])) [(.tmp 32), (.cst (.v (.int .i64 1)))])⟩
  (.seq ⟨some 6, none, (.ofA (.mv (.tmp 33)))⟩
  .done))))
 (.seq (.tree (.seq ⟨some 34, none, (.ofA (.mv (.tmp 3)))⟩
  (.seq ⟨some 35, none, (.call (.cst (.fn 108 [])) [(.tmp 34), (.cst (.v (.string ⟨#[66, 120]⟩)))])⟩
  (.seq ⟨some 7, none, (.ofA (.mv (.tmp 35)))⟩
  .done))))
 (.seq (.tree (.seq ⟨some 36, none, (.ofA (.mv (.tmp 5)))⟩
  (.seq ⟨some 37, none, (.ofA (.bin .eql (.tmp 36) (.cst (.v (.int .i64 0)))))⟩
  (.seq ⟨some 38, none, (.ofA (.mv (.tmp 37)))⟩
  (.seq ⟨some 39, some (38, true), (.ofA (.mv (.tmp 2)))⟩
  (.seq ⟨some 40, some (38, true), (.ofA (.isl 8 (.tmp 39) (.cst (.v (.int .i64 1)))))⟩
  (.seq ⟨some 41, some (38, true), (.ofA (.faddr 5 (.tmp 40)))⟩
  (.seq ⟨some 42, some (38, true), (.ofA (.faddr 2 (.tmp 41)))⟩
  (.seq ⟨some 43, some (38, true), (.ofA (.load none (.tmp 42)))⟩
  (.seq ⟨some 44, some (38, true), (.ofA (.bin .eql (.tmp 43) (.cst (.v (.string ⟨#[66, 120]⟩)))))⟩
  (.seq ⟨some 45, none, (.ofA (.pick (.tmp 38) (.tmp 44) (.cst (.v (.bool false)))))⟩
  (.seq ⟨some 46, none, (.ofA (.mv (.tmp 45)))⟩
  (.seq ⟨some 47, some (46, true), (.ofA (.mv (.tmp 2)))⟩
  (.seq ⟨some 48, some (46, true), (.call (.cst (.fn 45 [])) [(.tmp 47)])⟩
  (.seq ⟨some 49, none, (.ofA (.pick (.tmp 46) (.tmp 48) (.cst (.v (.bool false)))))⟩
  (.seq ⟨some 50, none, (.ofA (.mv (.tmp 49)))⟩
  (.seq ⟨some 51, some (50, true), (.ofA (.mv (.tmp 1)))⟩
  (.seq ⟨some 52, some (50, true), (.call (.cst (.fn 45 [])) [(.tmp 51)])⟩
  (.seq ⟨some 53, some (50, true), (.ofA (.un .not (.tmp 52)))⟩
  (.seq ⟨some 54, none, (.ofA (.pick (.tmp 50) (.tmp 53) (.cst (.v (.bool false)))))⟩
  (.seq ⟨some 55, none, (.ofA (.mv (.tmp 54)))⟩
  (.seq ⟨some 56, some (55, true), (.ofA (.mv (.tmp 6)))⟩
  (.seq ⟨some 57, some (55, true), (.ofA (.len (.tmp 56)))⟩
  (.seq ⟨some 58, some (55, true), (.ofA (.bin .eql (.tmp 57) (.cst (.v (.int .i64 1)))))⟩
  (.seq ⟨some 59, none, (.ofA (.pick (.tmp 55) (.tmp 58) (.cst (.v (.bool false)))))⟩
  (.seq ⟨some 60, none, (.ofA (.mv (.tmp 59)))⟩
  (.seq ⟨some 61, some (60, true), (.ofA (.mv (.tmp 6)))⟩
  (.seq ⟨some 62, some (60, true), (.ofA (.isl 1 (.tmp 61) (.cst (.v (.int .i64 0)))))⟩
  (.seq ⟨some 63, some (60, true), (.ofA (.load none (.tmp 62)))⟩
  (.seq ⟨some 64, some (60, true), (.ofA (.bin .eql (.tmp 63) (.cst (.v (.string ⟨#[66, 120]⟩)))))⟩
  (.seq ⟨some 65, none, (.ofA (.pick (.tmp 60) (.tmp 64) (.cst (.v (.bool false)))))⟩
  (.seq ⟨some 66, none, (.ofA (.mv (.tmp 65)))⟩
  (.seq ⟨some 67, some (66, true), (.ofA (.mv (.tmp 7)))⟩
  (.seq ⟨some 68, some (66, true), (.ofA (.len (.tmp 67)))⟩
  (.seq ⟨some 69, some (66, true), (.ofA (.bin .eql (.tmp 68) (.cst (.v (.int .i64 1)))))⟩
  (.seq ⟨some 70, none, (.ofA (.pick (.tmp 66) (.tmp 69) (.cst (.v (.bool false)))))⟩
  (.seq ⟨some 71, none, (.ofA (.mv (.tmp 70)))⟩
  (.seq ⟨some 72, some (71, true), (.ofA (.mv (.tmp 7)))⟩
  (.seq ⟨some 73, some (71, true), (.ofA (.isl 1 (.tmp 72) (.cst (.v (.int .i64 0)))))⟩
  (.seq ⟨some 74, some (71, true), (.ofA (.load none (.tmp 73)))⟩
  (.seq ⟨some 75, some (71, true), (.ofA (.bin .eql (.tmp 74) (.cst (.v (.int .i64 1)))))⟩
  (.seq ⟨some 76, none, (.ofA (.pick (.tmp 71) (.tmp 75) (.cst (.v (.bool false)))))⟩
  (.seq ⟨some 77, none, (.ofA (.mv (.tmp 76)))⟩
  (.seq ⟨some 78, some (77, true), (.ofA (.mv (.tmp 3)))⟩
  (.seq ⟨some 79, some (77, true), (.call (.cst (.fn 109 [])) [(.tmp 78)])⟩
  (.seq ⟨some 80, some (77, true), (.ofA (.len (.tmp 79)))⟩
  (.seq ⟨some 81, some (77, true), (.ofA (.bin .eql (.tmp 80) (.cst (.v (.int .i64 0)))))⟩
  (.seq ⟨some 82, none, (.ofA (.pick (.tmp 77) (.tmp 81) (.cst (.v (.bool false)))))⟩
  (.seq ⟨some 83, none, (.ofA (.mv (.tmp 82)))⟩
  (.seq ⟨some 84, some (83, true), (.call (.cst (.fn 109 [])) [(.cst (.v (.pointer none)))])⟩
  (.seq ⟨some 85, some (83, true), (.ofA (.len (.tmp 84)))⟩
  (.seq ⟨some 86, some (83, true), (.ofA (.bin .eql (.tmp 85) (.cst (.v (.int .i64 0)))))⟩
  (.seq ⟨some 87, none, (.ofA (.pick (.tmp 83) (.tmp 86) (.cst (.v (.bool false)))))⟩
  (.seq ⟨some 0, none, (.ofA (.mv (.tmp 87)))⟩
  .done))))))))))))))))))))))))))))))))))))))))))))))))))))))
 .ret))))))))
def r43 : List XR := [.tmp 0]
theorem fn43 : FnX Tryz.prog 43 EFF 88 x43 r43 := ⟨_, Tryz.func43, by kernel_rfl, by kernel_rfl, by kernel_rfl, by kernel_rfl⟩
-- almshouse/foreign.Sign (1 parameters)
def x44 : XC := (.seq (.tree (.seq ⟨some 2, none, (.ofA (.mv (.cst (.v (.slice none 0 0)))))⟩
  .done))
 (.seq (.tree (.seq ⟨some 7, none, (.ofA (.mv (.tmp 0)))⟩
  (.seq ⟨some 8, none, (.call (.cst (.fn 110 [])) [(.tmp 7)])⟩
  (.seq ⟨some 3, none, (.ofA (.mv (.tmp 8)))⟩
  .done))))
 (.seq (.seq (.tree (.seq ⟨some 9, none, (.ofA (.mv (.tmp 3)))⟩
  (.seq ⟨some 10, none, (.ofA (.len (.tmp 9)))⟩
  (.seq ⟨some 11, none, (.ofA (.mv (.cst (.v (.int .i64 0)))))⟩
  .done))))
 (.block 0 (.loop (.seq (.tree (.seq ⟨some 12, none, (.ofA (.bin .lss (.tmp 11) (.tmp 10)))⟩
  .done))
 (.seq (.cond (.tmp 12)
 .skip
 (.exit 0))
 (.seq (.block 1 (.seq (.tree (.seq ⟨some 13, none, (.ofA (.mv (.tmp 11)))⟩
  (.seq ⟨some 14, none, (.ofA (.isl 8 (.tmp 9) (.tmp 11)))⟩
  (.seq ⟨some 15, none, (.ofA (.load (some 8) (.tmp 14)))⟩
  (.seq ⟨some 5, none, (.alloc [(.v (.int .i64 0)), (.v (.int .i64 0)), (.v (.int .i64 0)), (.v (.int .i64 0)), (.v (.int .i64 0)), (.v (.int .i64 0)), (.v (.int .i64 0)), (.v (.string ⟨#[]⟩))])⟩
  (.seq ⟨some 4, none, (.ofA (.mv (.tmp 13)))⟩
  (.seq ⟨none, none, (.store 8 (.tmp 5) (.tmp 15))⟩
  .done)))))))
 (.seq (.tree (.seq ⟨some 16, none, (.ofA (.load (some 8) (.tmp 5)))⟩
  (.seq ⟨some 17, none, (.call (.cst (.fn 111 [])) [(.tmp 16)])⟩
  (.seq ⟨some 18, none, (.ofA (.mv (.tmp 17)))⟩
  (.seq ⟨some 19, some (18, true), (.ofA (.faddr 1 (.tmp 5)))⟩
  (.seq ⟨some 20, some (18, true), (.ofA (.load none (.tmp 19)))⟩
  (.seq ⟨some 21, some (18, true), (.ofA (.bin .geq (.tmp 20) (.cst (.v (.int .i64 0)))))⟩
  (.seq ⟨some 22, none, (.ofA (.pick (.tmp 18) (.tmp 21) (.cst (.v (.bool false)))))⟩
  (.seq ⟨some 23, none, (.ofA (.mv (.tmp 22)))⟩
  (.seq ⟨some 24, some (23, true), (.ofA (.faddr 1 (.tmp 5)))⟩
  (.seq ⟨some 25, some (23, true), (.ofA (.load none (.tmp 24)))⟩
  (.seq ⟨some 26, some (23, true), (.ofA (.bin .lss (.tmp 25) (.cst (.v (.int .i64 4)))))⟩
  (.seq ⟨some 27, none, (.ofA (.pick (.tmp 23) (.tmp 26) (.cst (.v (.bool false)))))⟩
  .done)))))))))))))
 (.cond (.tmp 27)
 (.seq (.tree (.seq ⟨some 28, none, (.ofA (.faddr 1 (.tmp 5)))⟩
  (.seq ⟨some 29, none, (.ofA (.load none (.tmp 28)))⟩
  (.seq ⟨some 30, none, (.ofA (.bin .add (.cst (.v (.int .i64 65))) (.tmp 29)))⟩
  (.seq ⟨some 31, none, (.ofA (.conv .u8 (.tmp 30)))⟩
  (.seq ⟨some 32, none, (.buildSl 1 1 [(.v (.int .u8 0))] [(0, 1, (.tmp 31))])⟩
  (.seq ⟨some 33, none, (.ofA (.b2s (.tmp 32)))⟩
  (.seq ⟨some 34, none, (.ofA (.faddr 5 (.tmp 5)))⟩
  (.seq ⟨some 35, none, (.ofA (.faddr 2 (.tmp 34)))⟩
  (.seq ⟨some 36, none, (.ofA (.load none (.tmp 35)))⟩
  (.seq ⟨some 37, none, (.ofA (.bin .add (.tmp 33) (.tmp 36)))⟩
  (.seq ⟨some 6, none, (.ofA (.mv (.tmp 37)))⟩
  .done))))))))))))
 (.tree (.seq ⟨some 38, none, (.ofA (.mv (.tmp 3)))⟩
  (.seq ⟨some 39, none, (.ofA (.mv (.tmp 4)))⟩
  (.seq ⟨some 40, none, (.ofA (.mv (.tmp 6)))⟩
  (.seq ⟨some 41, none, (.ofA (.mv (.tmp 6)))⟩
  (.seq ⟨some 42, none, (.ofA (.lens (.tmp 41)))⟩
  (.seq ⟨some 43, none, (.ofA (.mx false (.tmp 42) [(.cst (.v (.int .i64 16)))]))⟩
  (.seq ⟨some 44, none, (.ofA (.slcs (.tmp 40) none (some (.tmp 43))))⟩
  (.seq ⟨some 45, none, (.ofA (.isl 8 (.tmp 38) (.tmp 39)))⟩
  (.seq ⟨some 46, none, (.ofA (.faddr 5 (.tmp 45)))⟩
  (.seq ⟨some 47, none, (.ofA (.faddr 2 (.tmp 46)))⟩
  (.seq ⟨none, none, (.store 1 (.tmp 47) (.tmp 44))⟩
  .done)))))))))))))
 .skip))))
 (.tree (.seq ⟨some 48, none, (.ofA (.bin .add (.tmp 11) (.cst (.v (.int .i64 1)))))⟩
  (.seq ⟨some 11, none, (.ofA (.mv (.tmp 48)))⟩
  .done)))))))))
 (.seq (.tree (.seq ⟨some 49, none, (.ofA (.mv (.tmp 3)))⟩
  (.seq ⟨some 2, none, (.ofA (.mv (.tmp 49)))⟩
  .done)))
 .ret))))
def r44 : List XR := [.tmp 2]
theorem fn44 : FnX Tryz.prog 44 EFF 50 x44 r44 := ⟨_, Tryz.func44, by kernel_rfl, by kernel_rfl, by kernel_rfl, by kernel_rfl⟩
-- almshouse/foreign.Signed (1 parameters)
def x45 : XC := (.seq (.tree (.seq ⟨some 2, none, (.ofA (.mv (.cst (.v (.bool false)))))⟩
  .done))
 (.seq (.tree (.seq ⟨some 3, none, (.ofA (.mv (.tmp 0)))⟩
  (.seq ⟨some 4, none, (.call (.cst (.fn 112 [])) [(.tmp 3), (.cst (.fn 113 []))])⟩
  (.seq ⟨some 5, none, (.ofA (.un .not (.tmp 4)))⟩
  (.seq ⟨some 2, none, (.ofA (.mv (.tmp 5)))⟩
  .done)))))
 .ret))
def r45 : List XR := [.tmp 2]
theorem fn45 : FnX Tryz.prog 45 EFF 6 x45 r45 := ⟨_, Tryz.func45, by kernel_rfl, by kernel_rfl, by kernel_rfl, by kernel_rfl⟩
-- (*almshouse/store.Store).place (2 parameters)
def x47 : XC := (.seq (.tree (.seq ⟨some 4, none, (.ofA (.mv (.cst (.v (.int .i64 0)))))⟩
  .done))
 (.seq (.block 0 (.seq (.tree (.seq ⟨some 6, none, (.ofA (.mv (.tmp 0)))⟩
  (.seq ⟨some 7, none, (.ofA (.eqn false 1 (.tmp 6) (.cst (.v (.pointer none)))))⟩
  (.seq ⟨some 5, none, (.ofA (.mv (.tmp 7)))⟩
  .done))))
 (.cond (.tmp 5)
 (.seq (.tree (.seq ⟨some 4, none, (.ofA (.mv (.cst (.v (.int .i64 1)))))⟩
  .done))
 .ret)
 (.seq (.tree (.seq ⟨some 9, none, (.ofA (.mv (.tmp 1)))⟩
  (.seq ⟨some 10, none, (.ofA (.bin .lss (.tmp 9) (.cst (.v (.int .i64 0)))))⟩
  (.seq ⟨some 11, none, (.ofA (.mv (.tmp 10)))⟩
  (.seq ⟨some 12, some (11, false), (.ofA (.mv (.tmp 1)))⟩
  (.seq ⟨some 13, some (11, false), (.ofA (.mv (.tmp 0)))⟩
  (.seq ⟨some 14, some (11, false), (.ofA (.nilc (.tmp 13)))⟩
  (.seq ⟨some 15, some (11, false), (.ofA (.faddr 2 (.tmp 14)))⟩
  (.seq ⟨some 16, some (11, false), (.ofA (.faddr 2 (.tmp 15)))⟩
  (.seq ⟨some 17, some (11, false), (.ofA (.load none (.tmp 16)))⟩
  (.seq ⟨some 18, some (11, false), (.ofA (.bin .geq (.tmp 12) (.tmp 17)))⟩
  (.seq ⟨some 19, none, (.ofA (.pick (.tmp 11) (.cst (.v (.bool true))) (.tmp 18)))⟩
  (.seq ⟨some 8, none, (.ofA (.mv (.tmp 19)))⟩
  .done)))))))))))))
 (.cond (.tmp 8)
 (.seq (.tree (.seq ⟨some 4, none, (.ofA (.mv (.cst (.v (.int .i64 5)))))⟩
  .done))
 .ret)
 .skip)))))
 (.seq (.tree (.seq ⟨some 4, none, (.ofA (.mv (.cst (.v (.int .i64 0)))))⟩
  .done))
 .ret)))
def r47 : List XR := [.tmp 4]
theorem fn47 : FnX Tryz.prog 47 EFF 20 x47 r47 := ⟨_, Tryz.func47, by kernel_rfl, by kernel_rfl, by kernel_rfl, by kernel_rfl⟩
-- (*almshouse/buffer.Buffer).Last (2 parameters)
def x48 : XC := (.seq (.tree (.seq ⟨some 4, none, (.alloc [(.v (.int .i64 0)), (.v (.int .i64 0)), (.v (.string ⟨#[]⟩))])⟩
  (.seq ⟨some 5, none, (.ofA (.mv (.cst (.v (.bool false)))))⟩
  .done)))
 (.seq (.seq (.tree (.seq ⟨some 8, none, (.ofA (.mv (.tmp 0)))⟩
  (.seq ⟨some 9, none, (.call (.cst (.fn 58 [])) [(.tmp 8)])⟩
  (.seq ⟨some 10, none, (.ofA (.bin .sub (.tmp 9) (.cst (.v (.int .i64 1)))))⟩
  (.seq ⟨some 6, none, (.ofA (.mv (.tmp 10)))⟩
  .done)))))
 (.block 0 (.loop (.seq (.seq (.tree (.seq ⟨some 11, none, (.ofA (.mv (.tmp 6)))⟩
  (.seq ⟨some 12, none, (.ofA (.bin .geq (.tmp 11) (.cst (.v (.int .i64 0)))))⟩
  .done)))
 (.cond (.tmp 12)
 .skip
 (.exit 0)))
 (.seq (.block 1 (.seq (.tree (.seq ⟨some 15, none, (.ofA (.mv (.tmp 0)))⟩
  (.seq ⟨some 16, none, (.ofA (.mv (.tmp 6)))⟩
  (.seq ⟨some 17, none, (.call (.cst (.fn 118 [])) [(.tmp 15), (.tmp 16)])⟩
  (.seq ⟨some 18, none, (.ofA (.nilc (.tmp 17)))⟩
  (.seq ⟨some 19, none, (.ofA (.load (some 3) (.tmp 18)))⟩
  (.seq ⟨some 7, none, (.alloc [(.v (.int .i64 0)), (.v (.int .i64 0)), (.v (.string ⟨#[]⟩))])⟩
  (.seq ⟨none, none, (.store 3 (.tmp 7) (.tmp 19))⟩
  .done))))))))
 (.seq (.tree (.seq ⟨some 20, none, (.ofA (.faddr 0 (.tmp 7)))⟩
  (.seq ⟨some 21, none, (.ofA (.load none (.tmp 20)))⟩
  (.seq ⟨some 22, none, (.ofA (.mv (.tmp 1)))⟩
  (.seq ⟨some 23, none, (.ofA (.bin .eql (.tmp 21) (.tmp 22)))⟩
  .done)))))
 (.cond (.tmp 23)
 (.seq (.tree (.seq ⟨some 24, none, (.ofA (.load (some 3) (.tmp 7)))⟩
  (.seq ⟨none, none, (.store 3 (.tmp 4) (.tmp 24))⟩
  (.seq ⟨some 5, none, (.ofA (.mv (.cst (.v (.bool true)))))⟩
  .done))))
 .ret)
 .skip))))
 (.tree (.seq ⟨some 13, none, (.ofA (.mv (.tmp 6)))⟩
  (.seq ⟨some 14, none, (.ofA (.bin .sub (.tmp 13) (.cst (.v (.int .i64 1)))))⟩
  (.seq ⟨some 6, none, (.ofA (.mv (.tmp 14)))⟩
  .done)))))))))
 (.seq (.tree (.seq ⟨some 25, none, (.build [(.v (.int .i64 0)), (.v (.int .i64 0)), (.v (.string ⟨#[]⟩))] [])⟩
  (.seq ⟨none, none, (.store 3 (.tmp 4) (.tmp 25))⟩
  (.seq ⟨some 5, none, (.ofA (.mv (.cst (.v (.bool false)))))⟩
  .done))))
 .ret)))
def r48 : List XR := [.cell 4 (some 3), .tmp 5]
theorem fn48 : FnX Tryz.prog 48 EFF 26 x48 r48 := ⟨_, Tryz.func48, by kernel_rfl, by kernel_rfl, by kernel_rfl, by kernel_rfl⟩
-- (*almshouse/table.Table).At (2 parameters)
def x49 : XC := (.seq (.tree (.seq ⟨some 4, none, (.ofA (.mv (.cst (.v (.int .i64 0)))))⟩
  (.seq ⟨some 5, none, (.ofA (.mv (.cst (.v (.int .i64 0)))))⟩
  (.seq ⟨some 6, none, (.ofA (.mv (.cst (.v (.bool false)))))⟩
  .done))))
 (.seq (.seq (.tree (.seq ⟨some 8, none, (.ofA (.mv (.tmp 0)))⟩
  (.seq ⟨some 9, none, (.ofA (.eqn false 1 (.tmp 8) (.cst (.v (.pointer none)))))⟩
  (.seq ⟨some 10, none, (.ofA (.mv (.tmp 9)))⟩
  (.seq ⟨some 11, some (10, false), (.ofA (.mv (.tmp 1)))⟩
  (.seq ⟨some 12, some (10, false), (.ofA (.bin .lss (.tmp 11) (.cst (.v (.int .i64 0)))))⟩
  (.seq ⟨some 13, none, (.ofA (.pick (.tmp 10) (.cst (.v (.bool true))) (.tmp 12)))⟩
  (.seq ⟨some 14, none, (.ofA (.mv (.tmp 13)))⟩
  (.seq ⟨some 15, some (14, false), (.ofA (.mv (.tmp 1)))⟩
  (.seq ⟨some 16, some (14, false), (.ofA (.bin .geq (.tmp 15) (.cst (.v (.int .i64 64)))))⟩
  (.seq ⟨some 17, none, (.ofA (.pick (.tmp 14) (.cst (.v (.bool true))) (.tmp 16)))⟩
  .done)))))))))))
 (.cond (.tmp 17)
 (.seq (.tree (.seq ⟨some 4, none, (.ofA (.mv (.cst (.v (.int .i64 0)))))⟩
  (.seq ⟨some 5, none, (.ofA (.mv (.cst (.v (.int .i64 0)))))⟩
  (.seq ⟨some 6, none, (.ofA (.mv (.cst (.v (.bool false)))))⟩
  .done))))
 .ret)
 .skip))
 (.seq (.tree (.seq ⟨some 18, none, (.ofA (.mv (.tmp 0)))⟩
  (.seq ⟨some 19, none, (.ofA (.mv (.tmp 1)))⟩
  (.seq ⟨some 20, none, (.ofA (.nilc (.tmp 18)))⟩
  (.seq ⟨some 21, none, (.ofA (.faddr 1 (.tmp 20)))⟩
  (.seq ⟨some 22, none, (.ofA (.iarr 64 3 (.tmp 21) (.tmp 19)))⟩
  (.seq ⟨some 23, none, (.ofA (.load (some 3) (.tmp 22)))⟩
  (.seq ⟨some 7, none, (.alloc [(.v (.int .i64 0)), (.v (.int .i64 0)), (.v (.bool false))])⟩
  (.seq ⟨none, none, (.store 3 (.tmp 7) (.tmp 23))⟩
  .done)))))))))
 (.seq (.tree (.take ⟨some 24, none, (.ofA (.faddr 0 (.tmp 7)))⟩
  (.take ⟨some 25, none, (.ofA (.load none (.tmp 24)))⟩
  (.take ⟨some 26, none, (.ofA (.faddr 1 (.tmp 7)))⟩
  (.take ⟨some 27, none, (.ofA (.load none (.tmp 26)))⟩
  (.take ⟨some 28, none, (.ofA (.faddr 2 (.tmp 7)))⟩
  (.take ⟨some 29, none, (.ofA (.load none (.tmp 28)))⟩
  (.take ⟨some 4, none, (.ofA (.mv (.tmp 25)))⟩
  (.take ⟨some 5, none, (.ofA (.mv (.tmp 27)))⟩
  (.take ⟨some 6, none, (.ofA (.mv (.tmp 29)))⟩
  .done))))))))))
 .ret))))
def r49 : List XR := [.tmp 4, .tmp 5, .tmp 6]
theorem fn49 : FnX Tryz.prog 49 EFF 30 x49 r49 := ⟨_, Tryz.func49, by kernel_rfl, by kernel_rfl, by kernel_rfl, by kernel_rfl⟩
-- almshouse/scan.One (4 parameters)
def x50 : XC := (.seq (.tree (.seq ⟨some 8, none, (.alloc [(.v (.int .i64 0)), (.v (.int .i64 0)), (.v (.bool false)), (.v (.int .i64 0)), (.v (.int .i64 0)), (.v (.int .i64 0)), (.v (.int .i64 0)), (.v (.int .i64 0)), (.v (.bool false)), (.v (.string ⟨#[]⟩))])⟩
  (.seq ⟨some 9, none, (.ofA (.mv (.cst (.v (.int .i64 0)))))⟩
  .done)))
 (.seq (.block 0 (.seq (.tree (.seq ⟨some 17, none, (.ofA (.mv (.tmp 0)))⟩
  (.seq ⟨some 18, none, (.ofA (.eqn false 1 (.tmp 17) (.cst (.v (.pointer none)))))⟩
  (.seq ⟨some 16, none, (.ofA (.mv (.tmp 18)))⟩
  .done))))
 (.cond (.tmp 16)
 (.seq (.tree (.seq ⟨some 19, none, (.build [(.v (.int .i64 0)), (.v (.int .i64 0)), (.v (.bool false)), (.v (.int .i64 0)), (.v (.int .i64 0)), (.v (.int .i64 0)), (.v (.int .i64 0)), (.v (.int .i64 0)), (.v (.bool false)), (.v (.string ⟨#[]⟩))] [])⟩
  (.seq ⟨none, none, (.store 10 (.tmp 8) (.tmp 19))⟩
  (.seq ⟨some 9, none, (.ofA (.mv (.cst (.v (.int .i64 1)))))⟩
  .done))))
 .ret)
 (.seq (.tree (.seq ⟨some 21, none, (.ofA (.mv (.tmp 2)))⟩
  (.seq ⟨some 22, none, (.ofA (.bin .lss (.tmp 21) (.cst (.v (.int .i64 0)))))⟩
  (.seq ⟨some 23, none, (.ofA (.mv (.tmp 22)))⟩
  (.seq ⟨some 24, some (23, false), (.ofA (.mv (.tmp 2)))⟩
  (.seq ⟨some 25, some (23, false), (.ofA (.mv (.tmp 1)))⟩
  (.seq ⟨some 26, some (23, false), (.ofA (.len (.tmp 25)))⟩
  (.seq ⟨some 27, some (23, false), (.ofA (.bin .geq (.tmp 24) (.tmp 26)))⟩
  (.seq ⟨some 28, none, (.ofA (.pick (.tmp 23) (.cst (.v (.bool true))) (.tmp 27)))⟩
  (.seq ⟨some 20, none, (.ofA (.mv (.tmp 28)))⟩
  .done))))))))))
 (.cond (.tmp 20)
 (.seq (.tree (.seq ⟨some 29, none, (.build [(.v (.int .i64 0)), (.v (.int .i64 0)), (.v (.bool false)), (.v (.int .i64 0)), (.v (.int .i64 0)), (.v (.int .i64 0)), (.v (.int .i64 0)), (.v (.int .i64 0)), (.v (.bool false)), (.v (.string ⟨#[]⟩))] [])⟩
  (.seq ⟨none, none, (.store 10 (.tmp 8) (.tmp 29))⟩
  (.seq ⟨some 9, none, (.ofA (.mv (.cst (.v (.int .i64 5)))))⟩
  .done))))
 .ret)
 .skip)))))
 (.seq (.tree (.seq ⟨some 31, none, (.ofA (.mv (.tmp 0)))⟩
  (.seq ⟨some 32, none, (.ofA (.mv (.tmp 1)))⟩
  (.seq ⟨some 33, none, (.ofA (.mv (.tmp 2)))⟩
  (.seq ⟨some 34, none, (.ofA (.isl 1 (.tmp 32) (.tmp 33)))⟩
  (.seq ⟨some 35, none, (.ofA (.load none (.tmp 34)))⟩
  (.seq ⟨some 36, none, (.ofA (.mv (.tmp 3)))⟩
  (.seq ⟨some 37, none, (.call (.cst (.fn 119 [])) [(.tmp 31), (.tmp 35), (.tmp 36)])⟩
  (.seq ⟨some 30, none, (.ofA (.mv (.tmp 37)))⟩
  (.seq ⟨some 38, none, (.ofA (.extract 0 (.tmp 30)))⟩
  (.seq ⟨some 39, none, (.ofA (.extract 1 (.tmp 30)))⟩
  (.seq ⟨some 40, none, (.ofA (.extract 2 (.tmp 30)))⟩
  (.seq ⟨some 10, none, (.ofA (.mv (.tmp 38)))⟩
  (.seq ⟨some 11, none, (.ofA (.mv (.tmp 39)))⟩
  (.seq ⟨some 12, none, (.ofA (.mv (.tmp 40)))⟩
  .done)))))))))))))))
 (.seq (.seq (.tree (.seq ⟨some 41, none, (.ofA (.mv (.tmp 12)))⟩
  (.seq ⟨some 42, none, (.ofA (.bin .neq (.tmp 41) (.cst (.v (.int .i64 0)))))⟩
  (.seq ⟨some 43, none, (.ofA (.mv (.tmp 42)))⟩
  (.seq ⟨some 44, some (43, true), (.ofA (.mv (.tmp 12)))⟩
  (.seq ⟨some 45, some (43, true), (.ofA (.bin .neq (.tmp 44) (.cst (.v (.int .i64 11)))))⟩
  (.seq ⟨some 46, none, (.ofA (.pick (.tmp 43) (.tmp 45) (.cst (.v (.bool false)))))⟩
  .done)))))))
 (.cond (.tmp 46)
 (.seq (.tree (.seq ⟨some 47, none, (.build [(.v (.int .i64 0)), (.v (.int .i64 0)), (.v (.bool false)), (.v (.int .i64 0)), (.v (.int .i64 0)), (.v (.int .i64 0)), (.v (.int .i64 0)), (.v (.int .i64 0)), (.v (.bool false)), (.v (.string ⟨#[]⟩))] [])⟩
  (.seq ⟨some 48, none, (.ofA (.mv (.tmp 12)))⟩
  (.seq ⟨none, none, (.store 10 (.tmp 8) (.tmp 47))⟩
  (.seq ⟨some 9, none, (.ofA (.mv (.tmp 48)))⟩
  .done)))))
 .ret)
 .skip))
 (.seq (.tree (.seq ⟨some 49, none, (.ofA (.mv (.tmp 2)))⟩
  (.seq ⟨some 50, none, (.ofA (.mv (.tmp 3)))⟩
  (.seq ⟨some 51, none, (.build [(.v (.int .i64 0)), (.v (.int .i64 0)), (.v (.bool false)), (.v (.int .i64 0)), (.v (.int .i64 0)), (.v (.int .i64 0)), (.v (.int .i64 0)), (.v (.int .i64 0)), (.v (.bool false)), (.v (.string ⟨#[]⟩))] [(0, 1, (.tmp 49)), (1, 1, (.tmp 50))])⟩
  (.seq ⟨some 13, none, (.alloc [(.v (.int .i64 0)), (.v (.int .i64 0)), (.v (.bool false)), (.v (.int .i64 0)), (.v (.int .i64 0)), (.v (.int .i64 0)), (.v (.int .i64 0)), (.v (.int .i64 0)), (.v (.bool false)), (.v (.string ⟨#[]⟩))])⟩
  (.seq ⟨none, none, (.store 10 (.tmp 13) (.tmp 51))⟩
  .done))))))
 (.seq (.tree (.seq ⟨some 53, none, (.ofA (.mv (.tmp 10)))⟩
  (.seq ⟨some 54, none, (.call (.cst (.fn 120 [])) [(.tmp 53)])⟩
  (.seq ⟨some 52, none, (.ofA (.mv (.tmp 54)))⟩
  (.seq ⟨some 55, none, (.ofA (.extract 0 (.tmp 52)))⟩
  (.seq ⟨some 56, none, (.ofA (.extract 1 (.tmp 52)))⟩
  (.seq ⟨some 14, none, (.alloc [(.v (.int .i64 0)), (.v (.int .i64 0)), (.v (.int .i64 0)), (.v (.int .i64 0)), (.v (.int .i64 0)), (.v (.bool false))])⟩
  (.seq ⟨none, none, (.store 6 (.tmp 14) (.tmp 55))⟩
  (.seq ⟨some 15, none, (.ofA (.mv (.tmp 56)))⟩
  .done)))))))))
 (.seq (.seq (.tree (.seq ⟨some 57, none, (.ofA (.mv (.tmp 12)))⟩
  (.seq ⟨some 58, none, (.ofA (.bin .eql (.tmp 57) (.cst (.v (.int .i64 11)))))⟩
  (.seq ⟨some 59, none, (.ofA (.mv (.tmp 58)))⟩
  (.seq ⟨some 60, some (59, false), (.ofA (.mv (.tmp 15)))⟩
  (.seq ⟨some 61, some (59, false), (.ofA (.bin .neq (.tmp 60) (.cst (.v (.int .i64 0)))))⟩
  (.seq ⟨some 62, none, (.ofA (.pick (.tmp 59) (.cst (.v (.bool true))) (.tmp 61)))⟩
  .done)))))))
 (.cond (.tmp 62)
 (.seq (.tree (.seq ⟨some 63, none, (.ofA (.faddr 2 (.tmp 13)))⟩
  (.seq ⟨none, none, (.store 1 (.tmp 63) (.cst (.v (.bool true))))⟩
  .done)))
 (.seq (.tree (.seq ⟨some 64, none, (.ofA (.load (some 10) (.tmp 13)))⟩
  (.seq ⟨none, none, (.store 10 (.tmp 8) (.tmp 64))⟩
  (.seq ⟨some 9, none, (.ofA (.mv (.cst (.v (.int .i64 0)))))⟩
  .done))))
 .ret))
 .skip))
 (.seq (.tree (.seq ⟨some 65, none, (.ofA (.load (some 6) (.tmp 14)))⟩
  (.seq ⟨some 66, none, (.ofA (.mv (.tmp 11)))⟩
  (.seq ⟨some 67, none, (.ofA (.faddr 3 (.tmp 13)))⟩
  (.seq ⟨none, none, (.store 6 (.tmp 67) (.tmp 65))⟩
  (.seq ⟨some 68, none, (.ofA (.faddr 9 (.tmp 13)))⟩
  (.seq ⟨none, none, (.store 1 (.tmp 68) (.tmp 66))⟩
  .done)))))))
 (.seq (.tree (.seq ⟨some 69, none, (.ofA (.load (some 10) (.tmp 13)))⟩
  (.seq ⟨none, none, (.store 10 (.tmp 8) (.tmp 69))⟩
  (.seq ⟨some 9, none, (.ofA (.mv (.cst (.v (.int .i64 0)))))⟩
  .done))))
 .ret)))))))))
def r50 : List XR := [.cell 8 (some 10), .tmp 9]
theorem fn50 : FnX Tryz.prog 50 EFF 70 x50 r50 := ⟨_, Tryz.func50, by kernel_rfl, by kernel_rfl, by kernel_rfl, by kernel_rfl⟩
-- (*almshouse/table.Table).Clear (2 parameters)
def x51 : XC := (.seq (.tree (.seq ⟨some 4, none, (.ofA (.mv (.cst (.v (.bool false)))))⟩
  .done))
 (.seq (.tree (.seq ⟨some 9, none, (.ofA (.mv (.tmp 0)))⟩
  (.seq ⟨some 10, none, (.ofA (.mv (.tmp 1)))⟩
  (.seq ⟨some 11, none, (.call (.cst (.fn 49 [])) [(.tmp 9), (.tmp 10)])⟩
  (.seq ⟨some 8, none, (.ofA (.mv (.tmp 11)))⟩
  (.seq ⟨some 12, none, (.ofA (.extract 0 (.tmp 8)))⟩
  (.seq ⟨some 13, none, (.ofA (.extract 1 (.tmp 8)))⟩
  (.seq ⟨some 14, none, (.ofA (.extract 2 (.tmp 8)))⟩
  (.seq ⟨some 5, none, (.ofA (.mv (.tmp 12)))⟩
  (.seq ⟨some 6, none, (.ofA (.mv (.tmp 13)))⟩
  (.seq ⟨some 7, none, (.ofA (.mv (.tmp 14)))⟩
  .done)))))))))))
 (.seq (.seq (.tree (.seq ⟨some 15, none, (.ofA (.mv (.tmp 7)))⟩
  .done))
 (.cond (.tmp 15)
 (.seq (.tree (.seq ⟨some 16, none, (.ofA (.mv (.tmp 0)))⟩
  (.seq ⟨some 17, none, (.ofA (.nilc (.tmp 16)))⟩
  (.seq ⟨some 18, none, (.ofA (.faddr 193 (.tmp 17)))⟩
  (.seq ⟨some 19, none, (.ofA (.load none (.tmp 18)))⟩
  (.seq ⟨some 20, none, (.ofA (.mv (.tmp 5)))⟩
  (.seq ⟨some 21, none, (.ofA (.isl 1 (.tmp 19) (.tmp 20)))⟩
  (.seq ⟨some 22, none, (.ofA (.load none (.tmp 21)))⟩
  (.seq ⟨some 23, none, (.ofA (.mv (.tmp 6)))⟩
  (.seq ⟨some 24, none, (.ofA (.isl 1 (.tmp 22) (.tmp 23)))⟩
  (.seq ⟨none, none, (.store 1 (.tmp 24) (.cst (.v (.int .i64 (-1)))))⟩
  .done)))))))))))
 (.seq (.tree (.seq ⟨some 25, none, (.ofA (.mv (.tmp 0)))⟩
  (.seq ⟨some 26, none, (.ofA (.nilc (.tmp 25)))⟩
  (.seq ⟨some 27, none, (.ofA (.faddr 194 (.tmp 26)))⟩
  (.seq ⟨some 28, none, (.ofA (.load none (.tmp 27)))⟩
  (.seq ⟨some 29, none, (.ofA (.mv (.tmp 5)))⟩
  (.seq ⟨some 30, none, (.ofA (.isl 1 (.tmp 28) (.tmp 29)))⟩
  (.seq ⟨some 31, none, (.ofA (.load none (.tmp 30)))⟩
  (.seq ⟨some 32, none, (.ofA (.bin .sub (.tmp 31) (.cst (.v (.int .i64 1)))))⟩
  (.seq ⟨some 33, none, (.ofA (.isl 1 (.tmp 28) (.tmp 29)))⟩
  (.seq ⟨none, none, (.store 1 (.tmp 33) (.tmp 32))⟩
  .done)))))))))))
 (.tree (.seq ⟨some 34, none, (.ofA (.mv (.tmp 0)))⟩
  (.seq ⟨some 35, none, (.ofA (.mv (.tmp 1)))⟩
  (.seq ⟨some 36, none, (.build [(.v (.int .i64 0)), (.v (.int .i64 0)), (.v (.bool false))] [])⟩
  (.seq ⟨some 37, none, (.ofA (.nilc (.tmp 34)))⟩
  (.seq ⟨some 38, none, (.ofA (.faddr 1 (.tmp 37)))⟩
  (.seq ⟨some 39, none, (.ofA (.iarr 64 3 (.tmp 38) (.tmp 35)))⟩
  (.seq ⟨none, none, (.store 3 (.tmp 39) (.tmp 36))⟩
  .done))))))))))
 .skip))
 (.seq (.tree (.seq ⟨some 40, none, (.ofA (.mv (.tmp 7)))⟩
  (.seq ⟨some 4, none, (.ofA (.mv (.tmp 40)))⟩
  .done)))
 .ret))))
def r51 : List XR := [.tmp 4]
theorem fn51 : FnX Tryz.prog 51 EFF 41 x51 r51 := ⟨_, Tryz.func51, by kernel_rfl, by kernel_rfl, by kernel_rfl, by kernel_rfl⟩
-- (*almshouse/table.Table).Grow (2 parameters)
def x52 : XC := (.seq (.seq (.tree (.seq ⟨some 6, none, (.ofA (.mv (.tmp 0)))⟩
  (.seq ⟨some 7, none, (.ofA (.eqn false 1 (.tmp 6) (.cst (.v (.pointer none)))))⟩
  .done)))
 (.cond (.tmp 7)
 .ret
 .skip))
 (.seq (.tree (.seq ⟨some 8, none, (.ofA (.mv (.tmp 1)))⟩
  (.seq ⟨some 9, none, (.ofA (.mx true (.tmp 8) [(.cst (.v (.int .i64 0)))]))⟩
  (.seq ⟨some 10, none, (.ofA (.mv (.tmp 0)))⟩
  (.seq ⟨some 11, none, (.ofA (.nilc (.tmp 10)))⟩
  (.seq ⟨some 12, none, (.ofA (.faddr 194 (.tmp 11)))⟩
  (.seq ⟨some 13, none, (.ofA (.load none (.tmp 12)))⟩
  (.seq ⟨some 14, none, (.ofA (.len (.tmp 13)))⟩
  (.seq ⟨some 15, none, (.ofA (.bin .sub (.cst (.v (.int .i64 64))) (.tmp 14)))⟩
  (.seq ⟨some 16, none, (.ofA (.mx false (.tmp 9) [(.tmp 15)]))⟩
  (.seq ⟨some 17, none, (.ofA (.mv (.cst (.v (.int .i64 0)))))⟩
  .done)))))))))))
 (.block 0 (.loop (.seq (.tree (.seq ⟨some 18, none, (.ofA (.bin .lss (.tmp 17) (.tmp 16)))⟩
  .done))
 (.seq (.cond (.tmp 18)
 .skip
 (.exit 0))
 (.seq (.block 1 (.seq (.tree (.seq ⟨some 19, none, (.ofA (.mv (.tmp 0)))⟩
  (.seq ⟨some 20, none, (.ofA (.nilc (.tmp 19)))⟩
  (.seq ⟨some 21, none, (.ofA (.faddr 0 (.tmp 20)))⟩
  (.seq ⟨some 22, none, (.ofA (.load none (.tmp 21)))⟩
  (.seq ⟨some 23, none, (.mkSl 1 8 [(.v (.int .i64 0))] (.tmp 22) (.tmp 22))⟩
  (.seq ⟨some 4, none, (.ofA (.mv (.tmp 23)))⟩
  .done)))))))
 (.seq (.seq (.tree (.seq ⟨some 24, none, (.ofA (.mv (.tmp 4)))⟩
  (.seq ⟨some 25, none, (.ofA (.len (.tmp 24)))⟩
  (.seq ⟨some 26, none, (.ofA (.mv (.cst (.v (.int .i64 0)))))⟩
  .done))))
 (.block 2 (.loop (.seq (.tree (.seq ⟨some 27, none, (.ofA (.bin .lss (.tmp 26) (.tmp 25)))⟩
  .done))
 (.seq (.cond (.tmp 27)
 .skip
 (.exit 2))
 (.seq (.block 3 (.seq (.tree (.seq ⟨some 28, none, (.ofA (.mv (.tmp 26)))⟩
  (.seq ⟨some 5, none, (.ofA (.mv (.tmp 28)))⟩
  .done)))
 (.tree (.seq ⟨some 29, none, (.ofA (.mv (.tmp 4)))⟩
  (.seq ⟨some 30, none, (.ofA (.mv (.tmp 5)))⟩
  (.seq ⟨some 31, none, (.ofA (.isl 1 (.tmp 29) (.tmp 30)))⟩
  (.seq ⟨none, none, (.store 1 (.tmp 31) (.cst (.v (.int .i64 (-1)))))⟩
  .done)))))))
 (.tree (.seq ⟨some 32, none, (.ofA (.bin .add (.tmp 26) (.cst (.v (.int .i64 1)))))⟩
  (.seq ⟨some 26, none, (.ofA (.mv (.tmp 32)))⟩
  .done)))))))))
 (.seq (.tree (.seq ⟨some 33, none, (.ofA (.mv (.tmp 0)))⟩
  (.seq ⟨some 34, none, (.ofA (.mv (.tmp 0)))⟩
  (.seq ⟨some 35, none, (.ofA (.nilc (.tmp 34)))⟩
  (.seq ⟨some 36, none, (.ofA (.faddr 193 (.tmp 35)))⟩
  (.seq ⟨some 37, none, (.ofA (.load none (.tmp 36)))⟩
  (.seq ⟨some 38, none, (.ofA (.mv (.tmp 4)))⟩
  (.seq ⟨some 39, none, (.buildSl 1 1 [(.v (.slice none 0 0))] [(0, 1, (.tmp 38))])⟩
  (.seq ⟨some 40, none, (.app 1 24 (.tmp 37) (.tmp 39))⟩
  (.seq ⟨some 41, none, (.ofA (.nilc (.tmp 33)))⟩
  (.seq ⟨some 42, none, (.ofA (.faddr 193 (.tmp 41)))⟩
  (.seq ⟨none, none, (.store 1 (.tmp 42) (.tmp 40))⟩
  .done))))))))))))
 (.tree (.seq ⟨some 43, none, (.ofA (.mv (.tmp 0)))⟩
  (.seq ⟨some 44, none, (.ofA (.mv (.tmp 0)))⟩
  (.seq ⟨some 45, none, (.ofA (.nilc (.tmp 44)))⟩
  (.seq ⟨some 46, none, (.ofA (.faddr 194 (.tmp 45)))⟩
  (.seq ⟨some 47, none, (.ofA (.load none (.tmp 46)))⟩
  (.seq ⟨some 48, none, (.buildSl 1 1 [(.v (.int .i64 0))] [(0, 1, (.cst (.v (.int .i64 0))))])⟩
  (.seq ⟨some 49, none, (.app 1 8 (.tmp 47) (.tmp 48))⟩
  (.seq ⟨some 50, none, (.ofA (.nilc (.tmp 43)))⟩
  (.seq ⟨some 51, none, (.ofA (.faddr 194 (.tmp 50)))⟩
  (.seq ⟨none, none, (.store 1 (.tmp 51) (.tmp 49))⟩
  .done)))))))))))))))
 (.tree (.seq ⟨some 52, none, (.ofA (.bin .add (.tmp 17) (.cst (.v (.int .i64 1)))))⟩
  (.seq ⟨some 17, none, (.ofA (.mv (.tmp 52)))⟩
  .done))))))))))
def r52 : List XR := []
theorem fn52 : FnX Tryz.prog 52 EFF 53 x52 r52 := ⟨_, Tryz.func52, by kernel_rfl, by kernel_rfl, by kernel_rfl, by kernel_rfl⟩
-- almshouse/table.New (2 parameters)
def x53 : XC := (.seq (.tree (.seq ⟨some 4, none, (.ofA (.mv (.cst (.v (.pointer none)))))⟩
  .done))
 (.seq (.seq (.tree (.seq ⟨some 6, none, (.ofA (.mv (.tmp 0)))⟩
  (.seq ⟨some 7, none, (.ofA (.bin .lss (.tmp 6) (.cst (.v (.int .i64 1)))))⟩
  (.seq ⟨some 8, none, (.ofA (.mv (.tmp 7)))⟩
  (.seq ⟨some 9, some (8, false), (.ofA (.mv (.tmp 0)))⟩
  (.seq ⟨some 10, some (8, false), (.ofA (.bin .gtr (.tmp 9) (.cst (.v (.int .i64 64)))))⟩
  (.seq ⟨some 11, none, (.ofA (.pick (.tmp 8) (.cst (.v (.bool true))) (.tmp 10)))⟩
  (.seq ⟨some 12, none, (.ofA (.mv (.tmp 11)))⟩
  (.seq ⟨some 13, some (12, false), (.ofA (.mv (.tmp 1)))⟩
  (.seq ⟨some 14, some (12, false), (.ofA (.bin .lss (.tmp 13) (.cst (.v (.int .i64 2)))))⟩
  (.seq ⟨some 15, none, (.ofA (.pick (.tmp 12) (.cst (.v (.bool true))) (.tmp 14)))⟩
  (.seq ⟨some 16, none, (.ofA (.mv (.tmp 15)))⟩
  (.seq ⟨some 17, some (16, false), (.ofA (.mv (.tmp 1)))⟩
  (.seq ⟨some 18, some (16, false), (.ofA (.bin .gtr (.tmp 17) (.cst (.v (.int .i64 16)))))⟩
  (.seq ⟨some 19, none, (.ofA (.pick (.tmp 16) (.cst (.v (.bool true))) (.tmp 18)))⟩
  .done)))))))))))))))
 (.cond (.tmp 19)
 (.seq (.tree (.seq ⟨some 4, none, (.ofA (.mv (.cst (.v (.pointer none)))))⟩
  .done))
 .ret)
 .skip))
 (.seq (.tree (.seq ⟨some 20, none, (.ofA (.mv (.tmp 1)))⟩
  (.seq ⟨some 21, none, (.build [(.v (.int .i64 0)), (.v (.int .i64 0)), (.v (.int .i64 0)), (.v (.bool false)), (.v (.int .i64 0)), (.v (.int .i64 0)), (.v (.bool false)), (.v (.int .i64 0)), (.v (.int .i64 0)), (.v (.bool false)), (.v (.int .i64 0)), (.v (.int .i64 0)), (.v (.bool false)), (.v (.int .i64 0)), (.v (.int .i64 0)), (.v (.bool false)), (.v (.int .i64 0)), (.v (.int .i64 0)), (.v (.bool false)), (.v (.int .i64 0)), (.v (.int .i64 0)), (.v (.bool false)), (.v (.int .i64 0)), (.v (.int .i64 0)), (.v (.bool false)), (.v (.int .i64 0)), (.v (.int .i64 0)), (.v (.bool false)), (.v (.int .i64 0)), (.v (.int .i64 0)), (.v (.bool false)), (.v (.int .i64 0)), (.v (.int .i64 0)), (.v (.bool false)), (.v (.int .i64 0)), (.v (.int .i64 0)), (.v (.bool false)), (.v (.int .i64 0)), (.v (.int .i64 0)), (.v (.bool false)), (.v (.int .i64 0)), (.v (.int .i64 0)), (.v (.bool false)), (.v (.int .i64 0)), (.v (.int .i64 0)), (.v (.bool false)), (.v (.int .i64 0)), (.v (.int .i64 0)), (.v (.bool false)), (.v (.int .i64 0)), (.v (.int .i64 0)), (.v (.bool false)), (.v (.int .i64 0)), (.v (.int .i64 0)), (.v (.bool false)), (.v (.int .i64 0)), (.v (.int .i64 0)), (.v (.bool false)), (.v (.int .i64 0)), (.v (.int .i64 0)), (.v (.bool false)), (.v (.int .i64 0)), (.v (.int .i64 0)), (.v (.bool false)), (.v (.int .i64 0)), (.v (.int .i64 0)), (.v (.bool false)), (.v (.int .i64 0)), (.v (.int .i64 0)), (.v (.bool false)), (.v (.int .i64 0)), (.v (.int .i64 0)), (.v (.bool false)), (.v (.int .i64 0)), (.v (.int .i64 0)), (.v (.bool false)), (.v (.int .i64 0)), (.v (.int .i64 0)), (.v (.bool false)), (.v (.int .i64 0)), (.v (.int .i64 0)), (.v (.bool false)), (.v (.int .i64 0)), (.v (.int .i64 0)), (.v (.bool false)), (.v (.int .i64 0)), (.v (.int .i64 0)), (.v (.bool false)), (.v (.int .i64 0)), (.v (.int .i64 0)), (.v (.bool false)), (.v (.int .i64 0)), (.v (.int .i64 0)), (.v (.bool false)), (.v (.int .i64 0)), (.v (.int .i64 0)), (.v (.bool false)), (.v (.int .i64 0)), (.v (.int .i64 0)), (.v (.bool false)), (.v (.int .i64 0)), (.v (.int .i64 0)), (.v (.bool false)), (.v (.int .i64 0)), (.v (.int .i64 0)), (.v (.bool false)), (.v (.int .i64 0)), (.v (.int .i64 0)), (.v (.bool false)), (.v (.int .i64 0)), (.v (.int .i64 0)), (.v (.bool false)), (.v (.int .i64 0)), (.v (.int .i64 0)), (.v (.bool false)), (.v (.int .i64 0)), (.v (.int .i64 0)), (.v (.bool false)), (.v (.int .i64 0)), (.v (.int .i64 0)), (.v (.bool false)), (.v (.int .i64 0)), (.v (.int .i64 0)), (.v (.bool false)), (.v (.int .i64 0)), (.v (.int .i64 0)), (.v (.bool false)), (.v (.int .i64 0)), (.v (.int .i64 0)), (.v (.bool false)), (.v (.int .i64 0)), (.v (.int .i64 0)), (.v (.bool false)), (.v (.int .i64 0)), (.v (.int .i64 0)), (.v (.bool false)), (.v (.int .i64 0)), (.v (.int .i64 0)), (.v (.bool false)), (.v (.int .i64 0)), (.v (.int .i64 0)), (.v (.bool false)), (.v (.int .i64 0)), (.v (.int .i64 0)), (.v (.bool false)), (.v (.int .i64 0)), (.v (.int .i64 0)), (.v (.bool false)), (.v (.int .i64 0)), (.v (.int .i64 0)), (.v (.bool false)), (.v (.int .i64 0)), (.v (.int .i64 0)), (.v (.bool false)), (.v (.int .i64 0)), (.v (.int .i64 0)), (.v (.bool false)), (.v (.int .i64 0)), (.v (.int .i64 0)), (.v (.bool false)), (.v (.int .i64 0)), (.v (.int .i64 0)), (.v (.bool false)), (.v (.int .i64 0)), (.v (.int .i64 0)), (.v (.bool false)), (.v (.int .i64 0)), (.v (.int .i64 0)), (.v (.bool false)), (.v (.int .i64 0)), (.v (.int .i64 0)), (.v (.bool false)), (.v (.int .i64 0)), (.v (.int .i64 0)), (.v (.bool false)), (.v (.int .i64 0)), (.v (.int .i64 0)), (.v (.bool false)), (.v (.int .i64 0)), (.v (.int .i64 0)), (.v (.bool false)), (.v (.int .i64 0)), (.v (.int .i64 0)), (.v (.bool false)), (.v (.int .i64 0)), (.v (.int .i64 0)), (.v (.bool false)), (.v (.int .i64 0)), (.v (.int .i64 0)), (.v (.bool false)), (.v (.int .i64 0)), (.v (.int .i64 0)), (.v (.bool false)), (.v (.slice none 0 0)), (.v (.slice none 0 0))] [(0, 1, (.tmp 20))])⟩
  (.seq ⟨some 22, none, (.box (.tmp 21))⟩
  (.seq ⟨some 5, none, (.ofA (.mv (.tmp 22)))⟩
  .done)))))
 (.seq (.tree (.seq ⟨some 23, none, (.ofA (.mv (.tmp 5)))⟩
  (.seq ⟨some 24, none, (.ofA (.mv (.tmp 0)))⟩
  (.seq ⟨some 25, none, (.call (.cst (.fn 52 [])) [(.tmp 23), (.tmp 24)])⟩
  .done))))
 (.seq (.tree (.seq ⟨some 26, none, (.ofA (.mv (.tmp 5)))⟩
  (.seq ⟨some 4, none, (.ofA (.mv (.tmp 26)))⟩
  .done)))
 .ret)))))
def r53 : List XR := [.tmp 4]
theorem fn53 : FnX Tryz.prog 53 EFF 27 x53 r53 := ⟨_, Tryz.func53, by kernel_rfl, by kernel_rfl, by kernel_rfl, by kernel_rfl⟩
-- (*almshouse/nand.Nand).Geometry (1 parameters)
def x54 : XC := (.seq (.tree (.seq ⟨some 2, none, (.alloc [(.v (.int .i64 0)), (.v (.int .i64 0)), (.v (.int .i64 0)), (.v (.int .i64 0))])⟩
  .done))
 (.seq (.seq (.tree (.seq ⟨some 3, none, (.ofA (.mv (.tmp 0)))⟩
  (.seq ⟨some 4, none, (.ofA (.eqn false 1 (.tmp 3) (.cst (.v (.pointer none)))))⟩
  .done)))
 (.cond (.tmp 4)
 (.seq (.tree (.seq ⟨some 5, none, (.build [(.v (.int .i64 0)), (.v (.int .i64 0)), (.v (.int .i64 0)), (.v (.int .i64 0))] [])⟩
  (.seq ⟨none, none, (.store 4 (.tmp 2) (.tmp 5))⟩
  .done)))
 .ret)
 .skip))
 (.seq (.tree (.seq ⟨some 6, none, (.ofA (.mv (.tmp 0)))⟩
  (.seq ⟨some 7, none, (.ofA (.nilc (.tmp 6)))⟩
  (.seq ⟨some 8, none, (.ofA (.faddr 0 (.tmp 7)))⟩
  (.seq ⟨some 9, none, (.ofA (.load (some 4) (.tmp 8)))⟩
  (.seq ⟨none, none, (.store 4 (.tmp 2) (.tmp 9))⟩
  .done))))))
 .ret)))
def r54 : List XR := [.cell 2 (some 4)]
theorem fn54 : FnX Tryz.prog 54 EFF 10 x54 r54 := ⟨_, Tryz.func54, by kernel_rfl, by kernel_rfl, by kernel_rfl, by kernel_rfl⟩
-- slices.Clone[[]int,int] (1 parameters)
def x55 : XC := (.seq (.tree (.seq ⟨some 2, none, (.ofA (.mv (.cst (.v (.slice none 0 0)))))⟩
  .done))
 (.seq (.seq (.tree (.seq ⟨some 3, none, (.ofA (.mv (.tmp 0)))⟩
  (.seq ⟨some 4, none, (.ofA (.eqn false 2 (.tmp 3) (.cst (.v (.slice none 0 0)))))⟩
  .done)))
 (.cond (.tmp 4)
 (.seq (.tree (.seq ⟨some 2, none, (.ofA (.mv (.cst (.v (.slice none 0 0)))))⟩
  .done))
 .ret)
 .skip))
 (.seq (.tree (.seq ⟨some 5, none, (.buildSl 1 0 [] [])⟩
  (.seq ⟨some 6, none, (.ofA (.mv (.tmp 0)))⟩
  (.seq ⟨some 7, none, (.app 1 8 (.tmp 5) (.tmp 6))⟩
  (.seq ⟨some 2, none, (.ofA (.mv (.tmp 7)))⟩
  .done)))))
 .ret)))
def r55 : List XR := [.tmp 2]
theorem fn55 : FnX Tryz.prog 55 EFF 8 x55 r55 := ⟨_, Tryz.func55, by kernel_rfl, by kernel_rfl, by kernel_rfl, by kernel_rfl⟩
-- almshouse/buffer.New (0 parameters)
def x56 : XC := (.seq (.tree (.seq ⟨some 0, none, (.ofA (.mv (.cst (.v (.pointer none)))))⟩
  .done))
 (.seq (.tree (.seq ⟨some 1, none, (.build [(.v (.int .i64 0)), (.v (.int .i64 0)), (.v (.string ⟨#[]⟩)), (.v (.int .i64 0)), (.v (.int .i64 0)), (.v (.string ⟨#[]⟩)), (.v (.int .i64 0)), (.v (.int .i64 0)), (.v (.string ⟨#[]⟩)), (.v (.int .i64 0)), (.v (.int .i64 0)), (.v (.string ⟨#[]⟩)), (.v (.int .i64 0)), (.v (.int .i64 0))] [])⟩
  (.seq ⟨some 2, none, (.box (.tmp 1))⟩
  (.seq ⟨some 0, none, (.ofA (.mv (.tmp 2)))⟩
  .done))))
 .ret))
def r56 : List XR := [.tmp 0]
theorem fn56 : FnX Tryz.prog 56 EFF 3 x56 r56 := ⟨_, Tryz.func56, by kernel_rfl, by kernel_rfl, by kernel_rfl, by kernel_rfl⟩
-- (*almshouse/store.Store).change (2 parameters)
def x57 : XC := (.seq (.tree (.seq ⟨some 3, none, (.box (.tmp 1))⟩
  (.seq ⟨some 4, none, (.ofA (.mv (.cst (.v (.int .i64 0)))))⟩
  .done)))
 (.seq (.seq (.tree (.seq ⟨some 7, none, (.ofA (.mv (.tmp 0)))⟩
  (.seq ⟨some 8, none, (.ofA (.faddr 0 (.tmp 3)))⟩
  (.seq ⟨some 9, none, (.ofA (.load none (.tmp 8)))⟩
  (.seq ⟨some 10, none, (.call (.cst (.fn 47 [])) [(.tmp 7), (.tmp 9)])⟩
  (.seq ⟨some 5, none, (.ofA (.mv (.tmp 10)))⟩
  .done))))))
 (.seq (.tree (.seq ⟨some 11, none, (.ofA (.mv (.tmp 5)))⟩
  (.seq ⟨some 12, none, (.ofA (.bin .neq (.tmp 11) (.cst (.v (.int .i64 0)))))⟩
  .done)))
 (.cond (.tmp 12)
 (.seq (.tree (.seq ⟨some 13, none, (.ofA (.mv (.tmp 5)))⟩
  (.seq ⟨some 4, none, (.ofA (.mv (.tmp 13)))⟩
  .done)))
 .ret)
 .skip)))
 (.seq (.block 0 (.seq (.tree (.seq ⟨some 15, none, (.ofA (.faddr 2 (.tmp 3)))⟩
  (.seq ⟨some 16, none, (.ofA (.load none (.tmp 15)))⟩
  (.seq ⟨some 17, none, (.ofA (.lens (.tmp 16)))⟩
  (.seq ⟨some 18, none, (.ofA (.bin .gtr (.tmp 17) (.cst (.v (.int .i64 16)))))⟩
  (.seq ⟨some 14, none, (.ofA (.mv (.tmp 18)))⟩
  .done))))))
 (.cond (.tmp 14)
 (.seq (.tree (.seq ⟨some 4, none, (.ofA (.mv (.cst (.v (.int .i64 3)))))⟩
  .done))
 .ret)
 (.seq (.tree (.seq ⟨some 20, none, (.ofA (.mv (.tmp 0)))⟩
  (.seq ⟨some 21, none, (.ofA (.nilc (.tmp 20)))⟩
  (.seq ⟨some 22, none, (.ofA (.faddr 11 (.tmp 21)))⟩
  (.seq ⟨some 23, none, (.ofA (.load none (.tmp 22)))⟩
  (.seq ⟨some 19, none, (.ofA (.mv (.tmp 23)))⟩
  .done))))))
 (.cond (.tmp 19)
 (.seq (.tree (.seq ⟨some 4, none, (.ofA (.mv (.cst (.v (.int .i64 13)))))⟩
  .done))
 .ret)
 .skip)))))
 (.seq (.seq (.tree (.seq ⟨some 24, none, (.ofA (.mv (.tmp 0)))⟩
  (.seq ⟨some 25, none, (.ofA (.nilc (.tmp 24)))⟩
  (.seq ⟨some 26, none, (.ofA (.faddr 8 (.tmp 25)))⟩
  (.seq ⟨some 27, none, (.ofA (.load none (.tmp 26)))⟩
  (.seq ⟨some 28, none, (.call (.cst (.fn 121 [])) [(.tmp 27)])⟩
  .done))))))
 (.cond (.tmp 28)
 (.seq (.tree (.seq ⟨some 29, none, (.ofA (.mv (.tmp 0)))⟩
  (.seq ⟨some 30, none, (.call (.cst (.fn 59 [])) [(.tmp 29)])⟩
  (.seq ⟨some 6, none, (.ofA (.mv (.tmp 30)))⟩
  .done))))
 (.seq (.tree (.seq ⟨some 31, none, (.ofA (.mv (.tmp 6)))⟩
  (.seq ⟨some 32, none, (.ofA (.bin .neq (.tmp 31) (.cst (.v (.int .i64 0)))))⟩
  .done)))
 (.cond (.tmp 32)
 (.seq (.tree (.seq ⟨some 33, none, (.ofA (.mv (.tmp 6)))⟩
  (.seq ⟨some 4, none, (.ofA (.mv (.tmp 33)))⟩
  .done)))
 .ret)
 .skip)))
 .skip))
 (.seq (.tree (.take ⟨some 34, none, (.ofA (.mv (.tmp 0)))⟩
  (.take ⟨some 35, none, (.ofA (.nilc (.tmp 34)))⟩
  (.take ⟨some 36, none, (.ofA (.faddr 8 (.tmp 35)))⟩
  (.take ⟨some 37, none, (.ofA (.load none (.tmp 36)))⟩
  (.take ⟨some 38, none, (.ofA (.load (some 3) (.tmp 3)))⟩
  (.alt [false] [(⟨some 39, none, (.call (.cst (.fn 122 [])) [(.tmp 37), (.tmp 38)])⟩,
 (.take ⟨some 4, none, (.ofA (.mv (.tmp 39)))⟩
  .done))])))))))
 .ret)))))
def r57 : List XR := [.tmp 4]
theorem fn57 : FnX Tryz.prog 57 EFF 40 x57 r57 := ⟨_, Tryz.func57, by kernel_rfl, by kernel_rfl, by kernel_rfl, by kernel_rfl⟩
-- (*almshouse/buffer.Buffer).Len (1 parameters)
def x58 : XC := (.seq (.tree (.seq ⟨some 2, none, (.ofA (.mv (.cst (.v (.int .i64 0)))))⟩
  .done))
 (.seq (.seq (.tree (.seq ⟨some 3, none, (.ofA (.mv (.tmp 0)))⟩
  (.seq ⟨some 4, none, (.ofA (.eqn false 1 (.tmp 3) (.cst (.v (.pointer none)))))⟩
  .done)))
 (.cond (.tmp 4)
 (.seq (.tree (.seq ⟨some 2, none, (.ofA (.mv (.cst (.v (.int .i64 0)))))⟩
  .done))
 .ret)
 .skip))
 (.seq (.tree (.seq ⟨some 5, none, (.ofA (.mv (.tmp 0)))⟩
  (.seq ⟨some 6, none, (.ofA (.nilc (.tmp 5)))⟩
  (.seq ⟨some 7, none, (.ofA (.faddr 13 (.tmp 6)))⟩
  (.seq ⟨some 8, none, (.ofA (.load none (.tmp 7)))⟩
  (.seq ⟨some 2, none, (.ofA (.mv (.tmp 8)))⟩
  .done))))))
 .ret)))
def r58 : List XR := [.tmp 2]
theorem fn58 : FnX Tryz.prog 58 EFF 9 x58 r58 := ⟨_, Tryz.func58, by kernel_rfl, by kernel_rfl, by kernel_rfl, by kernel_rfl⟩
-- (*almshouse/store.Store).drain (1 parameters)
def x59 : XC := (.seq (.tree (.seq ⟨some 2, none, (.ofA (.mv (.cst (.v (.int .i64 0)))))⟩
  .done))
 (.seq (.tree (.seq ⟨some 7, none, (.ofA (.mv (.tmp 0)))⟩
  (.seq ⟨some 8, none, (.ofA (.nilc (.tmp 7)))⟩
  (.seq ⟨some 9, none, (.ofA (.faddr 8 (.tmp 8)))⟩
  (.seq ⟨some 10, none, (.ofA (.load none (.tmp 9)))⟩
  (.seq ⟨some 11, none, (.call (.cst (.fn 123 [])) [(.tmp 10)])⟩
  (.seq ⟨some 6, none, (.ofA (.mv (.tmp 11)))⟩
  (.seq ⟨some 12, none, (.ofA (.extract 0 (.tmp 6)))⟩
  (.seq ⟨some 13, none, (.ofA (.extract 1 (.tmp 6)))⟩
  (.seq ⟨some 3, none, (.alloc [(.v (.int .i64 0)), (.v (.int .i64 0)), (.v (.string ⟨#[]⟩))])⟩
  (.seq ⟨none, none, (.store 3 (.tmp 3) (.tmp 12))⟩
  (.seq ⟨some 4, none, (.ofA (.mv (.tmp 13)))⟩
  .done))))))))))))
 (.seq (.seq (.tree (.seq ⟨some 14, none, (.ofA (.mv (.tmp 4)))⟩
  (.seq ⟨some 15, none, (.ofA (.un .not (.tmp 14)))⟩
  .done)))
 (.cond (.tmp 15)
 (.seq (.tree (.seq ⟨some 2, none, (.ofA (.mv (.cst (.v (.int .i64 0)))))⟩
  .done))
 .ret)
 .skip))
 (.seq (.seq (.tree (.seq ⟨some 16, none, (.ofA (.mv (.tmp 0)))⟩
  (.seq ⟨some 17, none, (.ofA (.load (some 3) (.tmp 3)))⟩
  (.seq ⟨some 18, none, (.call (.cst (.fn 124 [])) [(.tmp 16), (.tmp 17)])⟩
  (.seq ⟨some 5, none, (.ofA (.mv (.tmp 18)))⟩
  .done)))))
 (.seq (.tree (.seq ⟨some 19, none, (.ofA (.mv (.tmp 5)))⟩
  (.seq ⟨some 20, none, (.ofA (.bin .neq (.tmp 19) (.cst (.v (.int .i64 0)))))⟩
  .done)))
 (.cond (.tmp 20)
 (.seq (.tree (.seq ⟨some 21, none, (.ofA (.mv (.tmp 5)))⟩
  (.seq ⟨some 2, none, (.ofA (.mv (.tmp 21)))⟩
  .done)))
 .ret)
 .skip)))
 (.seq (.tree (.seq ⟨some 22, none, (.ofA (.mv (.tmp 0)))⟩
  (.seq ⟨some 23, none, (.ofA (.nilc (.tmp 22)))⟩
  (.seq ⟨some 24, none, (.ofA (.faddr 8 (.tmp 23)))⟩
  (.seq ⟨some 25, none, (.ofA (.load none (.tmp 24)))⟩
  (.seq ⟨some 26, none, (.call (.cst (.fn 125 [])) [(.tmp 25)])⟩
  .done))))))
 (.seq (.tree (.seq ⟨some 2, none, (.ofA (.mv (.cst (.v (.int .i64 0)))))⟩
  .done))
 .ret))))))
def r59 : List XR := [.tmp 2]
theorem fn59 : FnX Tryz.prog 59 EFF 27 x59 r59 := ⟨_, Tryz.func59, by kernel_rfl, by kernel_rfl, by kernel_rfl, by kernel_rfl⟩
-- (*almshouse/store.Store).bad (2 parameters)
def x60 : XC := (.seq (.tree (.seq ⟨some 4, none, (.ofA (.mv (.cst (.v (.bool false)))))⟩
  .done))
 (.seq (.tree (.take ⟨some 5, none, (.ofA (.mv (.tmp 0)))⟩
  (.take ⟨some 6, none, (.ofA (.nilc (.tmp 5)))⟩
  (.take ⟨some 7, none, (.ofA (.faddr 0 (.tmp 6)))⟩
  (.take ⟨some 8, none, (.ofA (.load none (.tmp 7)))⟩
  (.take ⟨some 9, none, (.ofA (.mv (.tmp 0)))⟩
  (.take ⟨some 10, none, (.ofA (.nilc (.tmp 9)))⟩
  (.take ⟨some 11, none, (.ofA (.faddr 2 (.tmp 10)))⟩
  (.take ⟨some 12, none, (.ofA (.faddr 4 (.tmp 11)))⟩
  (.take ⟨some 13, none, (.ofA (.load none (.tmp 12)))⟩
  (.take ⟨some 14, none, (.ofA (.mv (.tmp 1)))⟩
  (.take ⟨some 15, none, (.ofA (.isl 1 (.tmp 13) (.tmp 14)))⟩
  (.take ⟨some 16, none, (.ofA (.load none (.tmp 15)))⟩
  (.act true [(⟨some 17, none, (.call (.cst (.fn 126 [])) [(.tmp 8), (.tmp 16)])⟩,
 (.take ⟨some 4, none, (.ofA (.mv (.tmp 17)))⟩
  .done))]))))))))))))))
 .ret))
def r60 : List XR := [.tmp 4]
theorem fn60 : FnX Tryz.prog 60 EFF 18 x60 r60 := ⟨_, Tryz.func60, by kernel_rfl, by kernel_rfl, by kernel_rfl, by kernel_rfl⟩
-- (*almshouse/store.Store).next (2 parameters)
def x61 : XC := (.seq (.tree (.seq ⟨some 4, none, (.ofA (.mv (.cst (.v (.int .i64 0)))))⟩
  .done))
 (.seq (.tree (.take ⟨some 5, none, (.ofA (.mv (.tmp 0)))⟩
  (.take ⟨some 6, none, (.ofA (.nilc (.tmp 5)))⟩
  (.take ⟨some 7, none, (.ofA (.faddr 0 (.tmp 6)))⟩
  (.take ⟨some 8, none, (.ofA (.load none (.tmp 7)))⟩
  (.take ⟨some 9, none, (.ofA (.mv (.tmp 0)))⟩
  (.take ⟨some 10, none, (.ofA (.nilc (.tmp 9)))⟩
  (.take ⟨some 11, none, (.ofA (.faddr 2 (.tmp 10)))⟩
  (.take ⟨some 12, none, (.ofA (.faddr 4 (.tmp 11)))⟩
  (.take ⟨some 13, none, (.ofA (.load none (.tmp 12)))⟩
  (.take ⟨some 14, none, (.ofA (.mv (.tmp 1)))⟩
  (.take ⟨some 15, none, (.ofA (.isl 1 (.tmp 13) (.tmp 14)))⟩
  (.take ⟨some 16, none, (.ofA (.load none (.tmp 15)))⟩
  (.act true [(⟨some 17, none, (.call (.cst (.fn 127 [])) [(.tmp 8), (.tmp 16)])⟩,
 (.take ⟨some 4, none, (.ofA (.mv (.tmp 17)))⟩
  .done))]))))))))))))))
 .ret))
def r61 : List XR := [.tmp 4]
theorem fn61 : FnX Tryz.prog 61 EFF 18 x61 r61 := ⟨_, Tryz.func61, by kernel_rfl, by kernel_rfl, by kernel_rfl, by kernel_rfl⟩
-- almshouse/scan.Pages (2 parameters)
def x65 : XC := (.seq (.tree (.seq ⟨some 4, none, (.ofA (.mv (.cst (.v (.slice none 0 0)))))⟩
  (.seq ⟨some 5, none, (.ofA (.mv (.cst (.v (.int .i64 0)))))⟩
  .done)))
 (.seq (.seq (.tree (.seq ⟨some 14, none, (.ofA (.mv (.tmp 0)))⟩
  (.seq ⟨some 15, none, (.ofA (.eqn false 1 (.tmp 14) (.cst (.v (.pointer none)))))⟩
  .done)))
 (.cond (.tmp 15)
 (.seq (.tree (.seq ⟨some 4, none, (.ofA (.mv (.cst (.v (.slice none 0 0)))))⟩
  (.seq ⟨some 5, none, (.ofA (.mv (.cst (.v (.int .i64 1)))))⟩
  .done)))
 .ret)
 .skip))
 (.seq (.seq (.tree (.seq ⟨some 16, none, (.ofA (.mv (.tmp 1)))⟩
  (.seq ⟨some 17, none, (.ofA (.len (.tmp 16)))⟩
  (.seq ⟨some 18, none, (.ofA (.mv (.cst (.v (.int .i64 0)))))⟩
  .done))))
 (.block 0 (.loop (.seq (.tree (.seq ⟨some 19, none, (.ofA (.bin .lss (.tmp 18) (.tmp 17)))⟩
  .done))
 (.seq (.cond (.tmp 19)
 .skip
 (.exit 0))
 (.seq (.block 1 (.seq (.tree (.seq ⟨some 20, none, (.ofA (.isl 1 (.tmp 16) (.tmp 18)))⟩
  (.seq ⟨some 21, none, (.ofA (.load none (.tmp 20)))⟩
  (.seq ⟨some 7, none, (.ofA (.mv (.tmp 21)))⟩
  .done))))
 (.seq (.tree (.seq ⟨some 22, none, (.ofA (.mv (.tmp 7)))⟩
  (.seq ⟨some 23, none, (.ofA (.bin .lss (.tmp 22) (.cst (.v (.int .i64 0)))))⟩
  (.seq ⟨some 24, none, (.ofA (.mv (.tmp 23)))⟩
  (.seq ⟨some 25, some (24, false), (.ofA (.mv (.tmp 7)))⟩
  (.seq ⟨some 26, some (24, false), (.ofA (.mv (.tmp 0)))⟩
  (.seq ⟨some 27, some (24, false), (.call (.cst (.fn 130 [])) [(.tmp 26)])⟩
  (.seq ⟨some 28, some (24, false), (.ofA (.bin .geq (.tmp 25) (.tmp 27)))⟩
  (.seq ⟨some 29, none, (.ofA (.pick (.tmp 24) (.cst (.v (.bool true))) (.tmp 28)))⟩
  .done)))))))))
 (.cond (.tmp 29)
 (.seq (.tree (.seq ⟨some 4, none, (.ofA (.mv (.cst (.v (.slice none 0 0)))))⟩
  (.seq ⟨some 5, none, (.ofA (.mv (.cst (.v (.int .i64 5)))))⟩
  .done)))
 .ret)
 .skip))))
 (.tree (.seq ⟨some 30, none, (.ofA (.bin .add (.tmp 18) (.cst (.v (.int .i64 1)))))⟩
  (.seq ⟨some 18, none, (.ofA (.mv (.tmp 30)))⟩
  .done)))))))))
 (.seq (.tree (.seq ⟨some 8, none, (.ofA (.mv (.cst (.v (.slice none 0 0)))))⟩
  .done))
 (.seq (.seq (.tree (.seq ⟨some 31, none, (.ofA (.mv (.tmp 1)))⟩
  (.seq ⟨some 32, none, (.ofA (.len (.tmp 31)))⟩
  (.seq ⟨some 33, none, (.ofA (.mv (.cst (.v (.int .i64 0)))))⟩
  .done))))
 (.block 2 (.loop (.seq (.tree (.seq ⟨some 34, none, (.ofA (.bin .lss (.tmp 33) (.tmp 32)))⟩
  .done))
 (.seq (.cond (.tmp 34)
 .skip
 (.exit 2))
 (.seq (.block 3 (.seq (.tree (.seq ⟨some 35, none, (.ofA (.mv (.tmp 33)))⟩
  (.seq ⟨some 36, none, (.ofA (.isl 1 (.tmp 31) (.tmp 33)))⟩
  (.seq ⟨some 37, none, (.ofA (.load none (.tmp 36)))⟩
  (.seq ⟨some 9, none, (.ofA (.mv (.tmp 35)))⟩
  (.seq ⟨some 10, none, (.ofA (.mv (.tmp 37)))⟩
  .done))))))
 (.seq (.seq (.tree (.seq ⟨some 38, none, (.ofA (.mv (.tmp 0)))⟩
  (.seq ⟨some 39, none, (.ofA (.mv (.tmp 10)))⟩
  (.seq ⟨some 40, none, (.call (.cst (.fn 126 [])) [(.tmp 38), (.tmp 39)])⟩
  .done))))
 (.cond (.tmp 40)
 (.exit 3)
 .skip))
 (.seq (.tree (.seq ⟨some 41, none, (.ofA (.mv (.tmp 0)))⟩
  (.seq ⟨some 42, none, (.ofA (.mv (.tmp 10)))⟩
  (.seq ⟨some 43, none, (.call (.cst (.fn 127 [])) [(.tmp 41), (.tmp 42)])⟩
  (.seq ⟨some 44, none, (.ofA (.mv (.cst (.v (.int .i64 0)))))⟩
  .done)))))
 (.block 4 (.loop (.seq (.tree (.seq ⟨some 45, none, (.ofA (.bin .lss (.tmp 44) (.tmp 43)))⟩
  .done))
 (.seq (.cond (.tmp 45)
 .skip
 (.exit 4))
 (.seq (.block 5 (.seq (.tree (.seq ⟨some 46, none, (.ofA (.mv (.tmp 44)))⟩
  (.seq ⟨some 11, none, (.ofA (.mv (.tmp 46)))⟩
  .done)))
 (.seq (.tree (.seq ⟨some 48, none, (.ofA (.mv (.tmp 0)))⟩
  (.seq ⟨some 49, none, (.ofA (.mv (.tmp 1)))⟩
  (.seq ⟨some 50, none, (.ofA (.mv (.tmp 9)))⟩
  (.seq ⟨some 51, none, (.ofA (.mv (.tmp 11)))⟩
  (.seq ⟨some 52, none, (.call (.cst (.fn 50 [])) [(.tmp 48), (.tmp 49), (.tmp 50), (.tmp 51)])⟩
  (.seq ⟨some 47, none, (.ofA (.mv (.tmp 52)))⟩
  (.seq ⟨some 53, none, (.ofA (.extract 0 (.tmp 47)))⟩
  (.seq ⟨some 54, none, (.ofA (.extract 1 (.tmp 47)))⟩
  (.seq ⟨some 12, none, (.alloc [(.v (.int .i64 0)), (.v (.int .i64 0)), (.v (.bool false)), (.v (.int .i64 0)), (.v (.int .i64 0)), (.v (.int .i64 0)), (.v (.int .i64 0)), (.v (.int .i64 0)), (.v (.bool false)), (.v (.string ⟨#[]⟩))])⟩
  (.seq ⟨none, none, (.store 10 (.tmp 12) (.tmp 53))⟩
  (.seq ⟨some 13, none, (.ofA (.mv (.tmp 54)))⟩
  .done))))))))))))
 (.seq (.seq (.tree (.seq ⟨some 55, none, (.ofA (.mv (.tmp 13)))⟩
  (.seq ⟨some 56, none, (.ofA (.bin .neq (.tmp 55) (.cst (.v (.int .i64 0)))))⟩
  .done)))
 (.cond (.tmp 56)
 (.seq (.tree (.seq ⟨some 57, none, (.ofA (.mv (.tmp 13)))⟩
  (.seq ⟨some 4, none, (.ofA (.mv (.cst (.v (.slice none 0 0)))))⟩
  (.seq ⟨some 5, none, (.ofA (.mv (.tmp 57)))⟩
  .done))))
 .ret)
 .skip))
 (.tree (.seq ⟨some 58, none, (.ofA (.mv (.tmp 8)))⟩
  (.seq ⟨some 59, none, (.ofA (.load (some 10) (.tmp 12)))⟩
  (.seq ⟨some 60, none, (.buildSl 10 1 [(.v (.int .i64 0)), (.v (.int .i64 0)), (.v (.bool false)), (.v (.int .i64 0)), (.v (.int .i64 0)), (.v (.int .i64 0)), (.v (.int .i64 0)), (.v (.int .i64 0)), (.v (.bool false)), (.v (.string ⟨#[]⟩))] [(0, 10, (.tmp 59))])⟩
  (.seq ⟨some 61, none, (.app 10 88 (.tmp 58) (.tmp 60))⟩
  (.seq ⟨some 8, none, (.ofA (.mv (.tmp 61)))⟩
  .done))))))))))
 (.tree (.seq ⟨some 62, none, (.ofA (.bin .add (.tmp 44) (.cst (.v (.int .i64 1)))))⟩
  (.seq ⟨some 44, none, (.ofA (.mv (.tmp 62)))⟩
  .done))))))))))))
 (.tree (.seq ⟨some 63, none, (.ofA (.bin .add (.tmp 33) (.cst (.v (.int .i64 1)))))⟩
  (.seq ⟨some 33, none, (.ofA (.mv (.tmp 63)))⟩
  .done)))))))))
 (.seq (.tree (.seq ⟨some 64, none, (.ofA (.mv (.tmp 8)))⟩
  (.seq ⟨some 4, none, (.ofA (.mv (.tmp 64)))⟩
  (.seq ⟨some 5, none, (.ofA (.mv (.cst (.v (.int .i64 0)))))⟩
  .done))))
 .ret))))))
def r65 : List XR := [.tmp 4, .tmp 5]
theorem fn65 : FnX Tryz.prog 65 EFF 65 x65 r65 := ⟨_, Tryz.func65, by kernel_rfl, by kernel_rfl, by kernel_rfl, by kernel_rfl⟩
-- (*almshouse/table.Table).Set (4 parameters)
def x68 : XC := (.seq (.tree (.seq ⟨some 8, none, (.ofA (.mv (.cst (.v (.int .i64 0)))))⟩
  .done))
 (.seq (.block 0 (.seq (.tree (.seq ⟨some 11, none, (.ofA (.mv (.tmp 0)))⟩
  (.seq ⟨some 12, none, (.ofA (.eqn false 1 (.tmp 11) (.cst (.v (.pointer none)))))⟩
  (.seq ⟨some 10, none, (.ofA (.mv (.tmp 12)))⟩
  .done))))
 (.cond (.tmp 10)
 (.seq (.tree (.seq ⟨some 8, none, (.ofA (.mv (.cst (.v (.int .i64 1)))))⟩
  .done))
 .ret)
 (.seq (.tree (.seq ⟨some 14, none, (.ofA (.mv (.tmp 1)))⟩
  (.seq ⟨some 15, none, (.ofA (.bin .lss (.tmp 14) (.cst (.v (.int .i64 0)))))⟩
  (.seq ⟨some 16, none, (.ofA (.mv (.tmp 15)))⟩
  (.seq ⟨some 17, some (16, false), (.ofA (.mv (.tmp 1)))⟩
  (.seq ⟨some 18, some (16, false), (.ofA (.bin .geq (.tmp 17) (.cst (.v (.int .i64 64)))))⟩
  (.seq ⟨some 19, none, (.ofA (.pick (.tmp 16) (.cst (.v (.bool true))) (.tmp 18)))⟩
  (.seq ⟨some 20, none, (.ofA (.mv (.tmp 19)))⟩
  (.seq ⟨some 21, some (20, false), (.ofA (.mv (.tmp 0)))⟩
  (.seq ⟨some 22, some (20, false), (.ofA (.mv (.tmp 2)))⟩
  (.seq ⟨some 23, some (20, false), (.ofA (.mv (.tmp 3)))⟩
  (.seq ⟨some 24, some (20, false), (.call (.cst (.fn 128 [])) [(.tmp 21), (.tmp 22), (.tmp 23)])⟩
  (.seq ⟨some 25, some (20, false), (.ofA (.un .not (.tmp 24)))⟩
  (.seq ⟨some 26, none, (.ofA (.pick (.tmp 20) (.cst (.v (.bool true))) (.tmp 25)))⟩
  (.seq ⟨some 13, none, (.ofA (.mv (.tmp 26)))⟩
  .done)))))))))))))))
 (.cond (.tmp 13)
 (.seq (.tree (.seq ⟨some 8, none, (.ofA (.mv (.cst (.v (.int .i64 5)))))⟩
  .done))
 .ret)
 .skip)))))
 (.seq (.seq (.tree (.seq ⟨some 27, none, (.ofA (.mv (.tmp 0)))⟩
  (.seq ⟨some 28, none, (.ofA (.nilc (.tmp 27)))⟩
  (.seq ⟨some 29, none, (.ofA (.faddr 193 (.tmp 28)))⟩
  (.seq ⟨some 30, none, (.ofA (.load none (.tmp 29)))⟩
  (.seq ⟨some 31, none, (.ofA (.mv (.tmp 2)))⟩
  (.seq ⟨some 32, none, (.ofA (.isl 1 (.tmp 30) (.tmp 31)))⟩
  (.seq ⟨some 33, none, (.ofA (.load none (.tmp 32)))⟩
  (.seq ⟨some 34, none, (.ofA (.mv (.tmp 3)))⟩
  (.seq ⟨some 35, none, (.ofA (.isl 1 (.tmp 33) (.tmp 34)))⟩
  (.seq ⟨some 36, none, (.ofA (.load none (.tmp 35)))⟩
  (.seq ⟨some 9, none, (.ofA (.mv (.tmp 36)))⟩
  .done))))))))))))
 (.seq (.tree (.seq ⟨some 37, none, (.ofA (.mv (.tmp 9)))⟩
  (.seq ⟨some 38, none, (.ofA (.bin .neq (.tmp 37) (.cst (.v (.int .i64 (-1))))))⟩
  (.seq ⟨some 39, none, (.ofA (.mv (.tmp 38)))⟩
  (.seq ⟨some 40, some (39, true), (.ofA (.mv (.tmp 9)))⟩
  (.seq ⟨some 41, some (39, true), (.ofA (.mv (.tmp 1)))⟩
  (.seq ⟨some 42, some (39, true), (.ofA (.bin .neq (.tmp 40) (.tmp 41)))⟩
  (.seq ⟨some 43, none, (.ofA (.pick (.tmp 39) (.tmp 42) (.cst (.v (.bool false)))))⟩
  .done))))))))
 (.cond (.tmp 43)
 (.seq (.tree (.seq ⟨some 8, none, (.ofA (.mv (.cst (.v (.int .i64 7)))))⟩
  .done))
 .ret)
 .skip)))
 (.seq (.tree (.seq ⟨some 44, none, (.ofA (.mv (.tmp 0)))⟩
  (.seq ⟨some 45, none, (.ofA (.mv (.tmp 1)))⟩
  (.seq ⟨some 46, none, (.call (.cst (.fn 51 [])) [(.tmp 44), (.tmp 45)])⟩
  .done))))
 (.seq (.tree (.seq ⟨some 47, none, (.ofA (.mv (.tmp 0)))⟩
  (.seq ⟨some 48, none, (.ofA (.mv (.tmp 1)))⟩
  (.seq ⟨some 49, none, (.ofA (.mv (.tmp 2)))⟩
  (.seq ⟨some 50, none, (.ofA (.mv (.tmp 3)))⟩
  (.seq ⟨some 51, none, (.build [(.v (.int .i64 0)), (.v (.int .i64 0)), (.v (.bool false))] [(0, 1, (.tmp 49)), (1, 1, (.tmp 50)), (2, 1, (.cst (.v (.bool true))))])⟩
  (.seq ⟨some 52, none, (.ofA (.nilc (.tmp 47)))⟩
  (.seq ⟨some 53, none, (.ofA (.faddr 1 (.tmp 52)))⟩
  (.seq ⟨some 54, none, (.ofA (.iarr 64 3 (.tmp 53) (.tmp 48)))⟩
  (.seq ⟨none, none, (.store 3 (.tmp 54) (.tmp 51))⟩
  .done))))))))))
 (.seq (.tree (.seq ⟨some 55, none, (.ofA (.mv (.tmp 0)))⟩
  (.seq ⟨some 56, none, (.ofA (.nilc (.tmp 55)))⟩
  (.seq ⟨some 57, none, (.ofA (.faddr 193 (.tmp 56)))⟩
  (.seq ⟨some 58, none, (.ofA (.load none (.tmp 57)))⟩
  (.seq ⟨some 59, none, (.ofA (.mv (.tmp 2)))⟩
  (.seq ⟨some 60, none, (.ofA (.isl 1 (.tmp 58) (.tmp 59)))⟩
  (.seq ⟨some 61, none, (.ofA (.load none (.tmp 60)))⟩
  (.seq ⟨some 62, none, (.ofA (.mv (.tmp 3)))⟩
  (.seq ⟨some 63, none, (.ofA (.mv (.tmp 1)))⟩
  (.seq ⟨some 64, none, (.ofA (.isl 1 (.tmp 61) (.tmp 62)))⟩
  (.seq ⟨none, none, (.store 1 (.tmp 64) (.tmp 63))⟩
  .done))))))))))))
 (.seq (.tree (.seq ⟨some 65, none, (.ofA (.mv (.tmp 0)))⟩
  (.seq ⟨some 66, none, (.ofA (.nilc (.tmp 65)))⟩
  (.seq ⟨some 67, none, (.ofA (.faddr 194 (.tmp 66)))⟩
  (.seq ⟨some 68, none, (.ofA (.load none (.tmp 67)))⟩
  (.seq ⟨some 69, none, (.ofA (.mv (.tmp 2)))⟩
  (.seq ⟨some 70, none, (.ofA (.isl 1 (.tmp 68) (.tmp 69)))⟩
  (.seq ⟨some 71, none, (.ofA (.load none (.tmp 70)))⟩
  (.seq ⟨some 72, none, (.ofA (.bin .add (.tmp 71) (.cst (.v (.int .i64 1)))))⟩
  (.seq ⟨some 73, none, (.ofA (.isl 1 (.tmp 68) (.tmp 69)))⟩
  (.seq ⟨none, none, (.store 1 (.tmp 73) (.tmp 72))⟩
  .done)))))))))))
 (.seq (.tree (.seq ⟨some 8, none, (.ofA (.mv (.cst (.v (.int .i64 0)))))⟩
  .done))
 .ret))))))))
def r68 : List XR := [.tmp 8]
theorem fn68 : FnX Tryz.prog 68 EFF 74 x68 r68 := ⟨_, Tryz.func68, by kernel_rfl, by kernel_rfl, by kernel_rfl, by kernel_rfl⟩
-- (*almshouse/store.Store).blank (2 parameters)
def x69 : XC := (.seq (.tree (.seq ⟨some 4, none, (.ofA (.mv (.cst (.v (.bool false)))))⟩
  .done))
 (.seq (.tree (.take ⟨some 5, none, (.ofA (.mv (.tmp 0)))⟩
  (.take ⟨some 6, none, (.ofA (.mv (.tmp 1)))⟩
  (.act true [(⟨some 7, none, (.call (.cst (.fn 60 [])) [(.tmp 5), (.tmp 6)])⟩,
 (.take ⟨some 8, none, (.ofA (.un .not (.tmp 7)))⟩
  (.take ⟨some 9, none, (.ofA (.mv (.tmp 8)))⟩
  (.take ⟨some 10, some (9, true), (.ofA (.mv (.tmp 0)))⟩
  (.take ⟨some 11, some (9, true), (.ofA (.nilc (.tmp 10)))⟩
  (.take ⟨some 12, some (9, true), (.ofA (.faddr 0 (.tmp 11)))⟩
  (.take ⟨some 13, some (9, true), (.ofA (.load none (.tmp 12)))⟩
  (.take ⟨some 14, some (9, true), (.ofA (.mv (.tmp 0)))⟩
  (.take ⟨some 15, some (9, true), (.ofA (.nilc (.tmp 14)))⟩
  (.take ⟨some 16, some (9, true), (.ofA (.faddr 2 (.tmp 15)))⟩
  (.take ⟨some 17, some (9, true), (.ofA (.faddr 4 (.tmp 16)))⟩
  (.take ⟨some 18, some (9, true), (.ofA (.load none (.tmp 17)))⟩
  (.take ⟨some 19, some (9, true), (.ofA (.mv (.tmp 1)))⟩
  (.take ⟨some 20, some (9, true), (.ofA (.isl 1 (.tmp 18) (.tmp 19)))⟩
  (.take ⟨some 21, some (9, true), (.ofA (.load none (.tmp 20)))⟩
  (.act true [(⟨some 22, some (9, true), (.call (.cst (.fn 136 [])) [(.tmp 13), (.tmp 21)])⟩,
 (.take ⟨some 23, none, (.ofA (.pick (.tmp 9) (.tmp 22) (.cst (.v (.bool false)))))⟩
  (.take ⟨some 4, none, (.ofA (.mv (.tmp 23)))⟩
  .done)))]))))))))))))))))]))))
 .ret))
def r69 : List XR := [.tmp 4]
theorem fn69 : FnX Tryz.prog 69 EFF 24 x69 r69 := ⟨_, Tryz.func69, by kernel_rfl, by kernel_rfl, by kernel_rfl, by kernel_rfl⟩
-- almshouse/house.New (1 parameters)
def x70 : XC := (.seq (.tree (.seq ⟨some 1, none, (.box (.tmp 0))⟩
  (.seq ⟨some 2, none, (.ofA (.mv (.cst (.v (.pointer none)))))⟩
  (.seq ⟨some 3, none, (.ofA (.mv (.cst (.v (.int .i64 0)))))⟩
  .done))))
 (.seq (.tree (.seq ⟨some 11, none, (.ofA (.faddr 4 (.tmp 1)))⟩
  (.seq ⟨some 12, none, (.ofA (.load (some 4) (.tmp 11)))⟩
  (.seq ⟨some 13, none, (.call (.cst (.fn 116 [])) [(.tmp 12)])⟩
  (.seq ⟨some 10, none, (.ofA (.mv (.tmp 13)))⟩
  (.seq ⟨some 14, none, (.ofA (.extract 0 (.tmp 10)))⟩
  (.seq ⟨some 15, none, (.ofA (.extract 1 (.tmp 10)))⟩
  (.seq ⟨some 4, none, (.ofA (.mv (.tmp 14)))⟩
  (.seq ⟨some 5, none, (.ofA (.mv (.tmp 15)))⟩
  .done)))))))))
 (.seq (.seq (.tree (.seq ⟨some 16, none, (.ofA (.mv (.tmp 5)))⟩
  (.seq ⟨some 17, none, (.ofA (.bin .neq (.tmp 16) (.cst (.v (.int .i64 0)))))⟩
  .done)))
 (.cond (.tmp 17)
 (.seq (.tree (.seq ⟨some 18, none, (.ofA (.mv (.tmp 5)))⟩
  (.seq ⟨some 2, none, (.ofA (.mv (.cst (.v (.pointer none)))))⟩
  (.seq ⟨some 3, none, (.ofA (.mv (.tmp 18)))⟩
  .done))))
 .ret)
 .skip))
 (.seq (.tree (.seq ⟨some 19, none, (.call (.cst (.fn 114 [])) [(.cst (.v (.int .i64 (-1))))])⟩
  (.seq ⟨some 6, none, (.ofA (.mv (.tmp 19)))⟩
  .done)))
 (.seq (.tree (.seq ⟨some 21, none, (.ofA (.faddr 0 (.tmp 1)))⟩
  (.seq ⟨some 22, none, (.ofA (.load (some 4) (.tmp 21)))⟩
  (.seq ⟨some 23, none, (.ofA (.mv (.tmp 6)))⟩
  (.seq ⟨some 24, none, (.ofA (.mv (.tmp 4)))⟩
  (.seq ⟨some 25, none, (.ofA (.faddr 8 (.tmp 1)))⟩
  (.seq ⟨some 26, none, (.ofA (.load none (.tmp 25)))⟩
  (.seq ⟨some 27, none, (.call (.cst (.fn 117 [])) [(.tmp 22), (.tmp 23), (.tmp 24), (.tmp 26)])⟩
  (.seq ⟨some 20, none, (.ofA (.mv (.tmp 27)))⟩
  (.seq ⟨some 28, none, (.ofA (.extract 0 (.tmp 20)))⟩
  (.seq ⟨some 29, none, (.ofA (.extract 1 (.tmp 20)))⟩
  (.seq ⟨some 7, none, (.ofA (.mv (.tmp 28)))⟩
  (.seq ⟨some 5, none, (.ofA (.mv (.tmp 29)))⟩
  .done)))))))))))))
 (.seq (.seq (.tree (.seq ⟨some 30, none, (.ofA (.mv (.tmp 5)))⟩
  (.seq ⟨some 31, none, (.ofA (.bin .neq (.tmp 30) (.cst (.v (.int .i64 0)))))⟩
  .done)))
 (.cond (.tmp 31)
 (.seq (.tree (.seq ⟨some 32, none, (.ofA (.mv (.tmp 5)))⟩
  (.seq ⟨some 2, none, (.ofA (.mv (.cst (.v (.pointer none)))))⟩
  (.seq ⟨some 3, none, (.ofA (.mv (.tmp 32)))⟩
  .done))))
 .ret)
 .skip))
 (.seq (.tree (.seq ⟨some 33, none, (.ofA (.mv (.tmp 7)))⟩
  (.seq ⟨some 34, none, (.ofA (.mv (.tmp 6)))⟩
  (.seq ⟨some 35, none, (.ofA (.mv (.tmp 4)))⟩
  (.seq ⟨some 36, none, (.build [(.v (.pointer none)), (.v (.pointer none)), (.v (.pointer none)), (.v (.int .i64 0)), (.v (.int .i64 0)), (.v (.bool false)), (.v (.int .i64 0)), (.v (.int .i64 0)), (.v (.int .i64 0)), (.v (.slice none 0 0)), (.v (.bool false)), (.v (.int .i64 0)), (.v (.int .i64 0)), (.v (.int .i64 0)), (.v (.slice none 0 0)), (.v (.bool false)), (.v (.int .i64 0)), (.v (.int .i64 0)), (.v (.int .i64 0)), (.v (.slice none 0 0)), (.v (.bool false)), (.v (.int .i64 0)), (.v (.int .i64 0)), (.v (.int .i64 0)), (.v (.slice none 0 0)), (.v (.pointer none)), (.v (.pointer none)), (.v (.pointer none)), (.v (.pointer none)), (.v (.pointer none)), (.v (.pointer none)), (.v (.pointer none)), (.v (.pointer none)), (.v (.int .i64 0)), (.v (.bool false))] [(0, 1, (.tmp 33)), (1, 1, (.tmp 34)), (2, 1, (.tmp 35)), (34, 1, (.cst (.v (.bool true))))])⟩
  (.seq ⟨some 37, none, (.box (.tmp 36))⟩
  (.seq ⟨some 8, none, (.ofA (.mv (.tmp 37)))⟩
  .done)))))))
 (.seq (.seq (.tree (.seq ⟨some 38, none, (.ofA (.mv (.cst (.v (.int .i64 0)))))⟩
  .done))
 (.block 0 (.loop (.seq (.tree (.seq ⟨some 39, none, (.ofA (.bin .lss (.tmp 38) (.cst (.v (.int .i64 4)))))⟩
  .done))
 (.seq (.cond (.tmp 39)
 .skip
 (.exit 0))
 (.seq (.block 1 (.seq (.tree (.seq ⟨some 40, none, (.ofA (.mv (.tmp 38)))⟩
  (.seq ⟨some 9, none, (.ofA (.mv (.tmp 40)))⟩
  .done)))
 (.tree (.take ⟨some 41, none, (.ofA (.mv (.tmp 8)))⟩
  (.take ⟨some 42, none, (.ofA (.mv (.tmp 9)))⟩
  (.take ⟨some 44, none, (.ofA (.nilc (.tmp 41)))⟩
  (.take ⟨some 45, none, (.ofA (.faddr 25 (.tmp 44)))⟩
  (.alt [true] [(⟨some 43, none, (.call (.cst (.fn 86 [])) [])⟩,
 (.take ⟨some 46, none, (.ofA (.iarr 4 2 (.tmp 45) (.tmp 42)))⟩
  (.take ⟨some 47, none, (.ofA (.faddr 1 (.tmp 46)))⟩
  (.alt [false] [(⟨none, none, (.store 1 (.tmp 47) (.tmp 43))⟩,
 .done)]))))]))))))))
 (.tree (.seq ⟨some 48, none, (.ofA (.bin .add (.tmp 38) (.cst (.v (.int .i64 1)))))⟩
  (.seq ⟨some 38, none, (.ofA (.mv (.tmp 48)))⟩
  .done)))))))))
 (.seq (.tree (.seq ⟨some 49, none, (.ofA (.mv (.tmp 8)))⟩
  (.seq ⟨some 2, none, (.ofA (.mv (.tmp 49)))⟩
  (.seq ⟨some 3, none, (.ofA (.mv (.cst (.v (.int .i64 0)))))⟩
  .done))))
 .ret)))))))))
def r70 : List XR := [.tmp 2, .tmp 3]
theorem fn70 : FnX Tryz.prog 70 EFF 50 x70 r70 := ⟨_, Tryz.func70, by kernel_rfl, by kernel_rfl, by kernel_rfl, by kernel_rfl⟩
-- (*almshouse/house.House).settle (1 parameters)
def x73 : XC := (.seq (.seq (.tree (.seq ⟨some 3, none, (.ofA (.mv (.tmp 0)))⟩
  (.seq ⟨some 4, none, (.ofA (.nilc (.tmp 3)))⟩
  (.seq ⟨some 5, none, (.ofA (.faddr 34 (.tmp 4)))⟩
  (.seq ⟨some 6, none, (.ofA (.load none (.tmp 5)))⟩
  (.seq ⟨some 7, none, (.ofA (.un .not (.tmp 6)))⟩
  (.seq ⟨some 8, none, (.ofA (.mv (.tmp 7)))⟩
  (.seq ⟨some 9, some (8, false), (.ofA (.mv (.tmp 0)))⟩
  (.seq ⟨some 10, some (8, false), (.ofA (.nilc (.tmp 9)))⟩
  (.seq ⟨some 11, some (8, false), (.ofA (.faddr 1 (.tmp 10)))⟩
  (.seq ⟨some 12, some (8, false), (.ofA (.load none (.tmp 11)))⟩
  (.seq ⟨some 13, some (8, false), (.call (.cst (.fn 99 [])) [(.tmp 12)])⟩
  (.seq ⟨some 14, some (8, false), (.ofA (.un .not (.tmp 13)))⟩
  (.seq ⟨some 15, none, (.ofA (.pick (.tmp 8) (.cst (.v (.bool true))) (.tmp 14)))⟩
  .done))))))))))))))
 (.cond (.tmp 15)
 .ret
 .skip))
 (.seq (.tree (.seq ⟨some 16, none, (.ofA (.mv (.tmp 0)))⟩
  (.seq ⟨some 17, none, (.ofA (.nilc (.tmp 16)))⟩
  (.seq ⟨some 18, none, (.ofA (.faddr 34 (.tmp 17)))⟩
  (.seq ⟨none, none, (.store 1 (.tmp 18) (.cst (.v (.bool false))))⟩
  .done)))))
 (.seq (.tree (.seq ⟨some 19, none, (.ofA (.mv (.tmp 0)))⟩
  (.seq ⟨some 20, none, (.build [(.v (.int .i64 0)), (.v (.int .i64 0)), (.v (.bool false)), (.v (.int .i64 0)), (.v (.int .i64 0)), (.v (.int .i64 0)), (.v (.slice none 0 0)), (.v (.bool false)), (.v (.int .i64 0)), (.v (.int .i64 0)), (.v (.int .i64 0)), (.v (.slice none 0 0)), (.v (.bool false)), (.v (.int .i64 0)), (.v (.int .i64 0)), (.v (.int .i64 0)), (.v (.slice none 0 0)), (.v (.bool false)), (.v (.int .i64 0)), (.v (.int .i64 0)), (.v (.int .i64 0)), (.v (.slice none 0 0))] [])⟩
  (.seq ⟨some 21, none, (.ofA (.nilc (.tmp 19)))⟩
  (.seq ⟨some 22, none, (.ofA (.faddr 3 (.tmp 21)))⟩
  (.seq ⟨none, none, (.store 22 (.tmp 22) (.tmp 20))⟩
  .done))))))
 (.seq (.tree (.seq ⟨some 23, none, (.ofA (.mv (.cst (.v (.int .i64 0)))))⟩
  .done))
 (.block 0 (.loop (.seq (.tree (.seq ⟨some 24, none, (.ofA (.bin .lss (.tmp 23) (.cst (.v (.int .i64 4)))))⟩
  .done))
 (.seq (.cond (.tmp 24)
 .skip
 (.exit 0))
 (.seq (.block 1 (.seq (.tree (.seq ⟨some 25, none, (.ofA (.mv (.tmp 23)))⟩
  (.seq ⟨some 2, none, (.ofA (.mv (.tmp 25)))⟩
  .done)))
 (.seq (.tree (.seq ⟨some 26, none, (.ofA (.mv (.tmp 0)))⟩
  (.seq ⟨some 27, none, (.ofA (.mv (.tmp 2)))⟩
  (.seq ⟨some 28, none, (.ofA (.nilc (.tmp 26)))⟩
  (.seq ⟨some 29, none, (.ofA (.faddr 25 (.tmp 28)))⟩
  (.seq ⟨some 30, none, (.ofA (.iarr 4 2 (.tmp 29) (.tmp 27)))⟩
  (.seq ⟨some 31, none, (.ofA (.faddr 0 (.tmp 30)))⟩
  (.seq ⟨none, none, (.store 1 (.tmp 31) (.cst (.v (.pointer none))))⟩
  .done))))))))
 (.tree (.seq ⟨some 32, none, (.ofA (.mv (.tmp 0)))⟩
  (.seq ⟨some 33, none, (.ofA (.mv (.tmp 2)))⟩
  (.seq ⟨some 34, none, (.ofA (.nilc (.tmp 32)))⟩
  (.seq ⟨some 35, none, (.ofA (.faddr 25 (.tmp 34)))⟩
  (.seq ⟨some 36, none, (.ofA (.iarr 4 2 (.tmp 35) (.tmp 33)))⟩
  (.seq ⟨some 37, none, (.ofA (.faddr 1 (.tmp 36)))⟩
  (.seq ⟨some 38, none, (.ofA (.load none (.tmp 37)))⟩
  (.seq ⟨some 39, none, (.call (.cst (.fn 89 [])) [(.tmp 38)])⟩
  .done))))))))))))
 (.tree (.seq ⟨some 40, none, (.ofA (.bin .add (.tmp 23) (.cst (.v (.int .i64 1)))))⟩
  (.seq ⟨some 23, none, (.ofA (.mv (.tmp 40)))⟩
  .done))))))))))))
def r73 : List XR := []
theorem fn73 : FnX Tryz.prog 73 EFF 41 x73 r73 := ⟨_, Tryz.func73, by kernel_rfl, by kernel_rfl, by kernel_rfl, by kernel_rfl⟩
-- (*almshouse/house.House).there (2 parameters)
def x75 : XC := (.seq (.tree (.seq ⟨some 4, none, (.ofA (.mv (.cst (.v (.int .i64 0)))))⟩
  .done))
 (.seq (.block 0 (.seq (.tree (.seq ⟨some 6, none, (.ofA (.mv (.tmp 0)))⟩
  (.seq ⟨some 7, none, (.call (.cst (.fn 36 [])) [(.tmp 6)])⟩
  (.seq ⟨some 8, none, (.ofA (.un .not (.tmp 7)))⟩
  (.seq ⟨some 5, none, (.ofA (.mv (.tmp 8)))⟩
  .done)))))
 (.cond (.tmp 5)
 (.seq (.tree (.seq ⟨some 4, none, (.ofA (.mv (.cst (.v (.int .i64 12)))))⟩
  .done))
 .ret)
 (.seq (.tree (.seq ⟨some 10, none, (.ofA (.mv (.tmp 1)))⟩
  (.seq ⟨some 11, none, (.ofA (.bin .lss (.tmp 10) (.cst (.v (.int .i64 0)))))⟩
  (.seq ⟨some 12, none, (.ofA (.mv (.tmp 11)))⟩
  (.seq ⟨some 13, some (12, false), (.ofA (.mv (.tmp 1)))⟩
  (.seq ⟨some 14, some (12, false), (.ofA (.bin .geq (.tmp 13) (.cst (.v (.int .i64 4)))))⟩
  (.seq ⟨some 15, none, (.ofA (.pick (.tmp 12) (.cst (.v (.bool true))) (.tmp 14)))⟩
  (.seq ⟨some 9, none, (.ofA (.mv (.tmp 15)))⟩
  .done))))))))
 (.cond (.tmp 9)
 (.seq (.tree (.seq ⟨some 4, none, (.ofA (.mv (.cst (.v (.int .i64 5)))))⟩
  .done))
 .ret)
 (.seq (.tree (.seq ⟨some 17, none, (.ofA (.mv (.tmp 0)))⟩
  (.seq ⟨some 18, none, (.ofA (.mv (.tmp 1)))⟩
  (.seq ⟨some 19, none, (.ofA (.nilc (.tmp 17)))⟩
  (.seq ⟨some 20, none, (.ofA (.faddr 3 (.tmp 19)))⟩
  (.seq ⟨some 21, none, (.ofA (.faddr 2 (.tmp 20)))⟩
  (.seq ⟨some 22, none, (.ofA (.iarr 4 5 (.tmp 21) (.tmp 18)))⟩
  (.seq ⟨some 23, none, (.ofA (.faddr 0 (.tmp 22)))⟩
  (.seq ⟨some 24, none, (.ofA (.load none (.tmp 23)))⟩
  (.seq ⟨some 25, none, (.ofA (.un .not (.tmp 24)))⟩
  (.seq ⟨some 16, none, (.ofA (.mv (.tmp 25)))⟩
  .done)))))))))))
 (.cond (.tmp 16)
 (.seq (.tree (.seq ⟨some 4, none, (.ofA (.mv (.cst (.v (.int .i64 6)))))⟩
  .done))
 .ret)
 .skip)))))))
 (.seq (.tree (.seq ⟨some 4, none, (.ofA (.mv (.cst (.v (.int .i64 0)))))⟩
  .done))
 .ret)))
def r75 : List XR := [.tmp 4]
theorem fn75 : FnX Tryz.prog 75 EFF 26 x75 r75 := ⟨_, Tryz.func75, by kernel_rfl, by kernel_rfl, by kernel_rfl, by kernel_rfl⟩
-- (*almshouse/queue.Queue).Len (1 parameters)
def x78 : XC := (.seq (.tree (.seq ⟨some 2, none, (.ofA (.mv (.cst (.v (.int .i64 0)))))⟩
  .done))
 (.seq (.seq (.tree (.seq ⟨some 3, none, (.ofA (.mv (.tmp 0)))⟩
  (.seq ⟨some 4, none, (.ofA (.eqn false 1 (.tmp 3) (.cst (.v (.pointer none)))))⟩
  .done)))
 (.cond (.tmp 4)
 (.seq (.tree (.seq ⟨some 2, none, (.ofA (.mv (.cst (.v (.int .i64 0)))))⟩
  .done))
 .ret)
 .skip))
 (.seq (.tree (.seq ⟨some 5, none, (.ofA (.mv (.tmp 0)))⟩
  (.seq ⟨some 6, none, (.ofA (.nilc (.tmp 5)))⟩
  (.seq ⟨some 7, none, (.ofA (.faddr 0 (.tmp 6)))⟩
  (.seq ⟨some 8, none, (.ofA (.load none (.tmp 7)))⟩
  (.seq ⟨some 9, none, (.ofA (.len (.tmp 8)))⟩
  (.seq ⟨some 2, none, (.ofA (.mv (.tmp 9)))⟩
  .done)))))))
 .ret)))
def r78 : List XR := [.tmp 2]
theorem fn78 : FnX Tryz.prog 78 EFF 10 x78 r78 := ⟨_, Tryz.func78, by kernel_rfl, by kernel_rfl, by kernel_rfl, by kernel_rfl⟩
-- almshouse/ledger.Create (5 parameters)
def x79 : XC := (.seq (.tree (.seq ⟨some 5, none, (.box (.tmp 0))⟩
  (.seq ⟨some 6, none, (.box (.tmp 1))⟩
  (.seq ⟨some 7, none, (.box (.tmp 2))⟩
  (.seq ⟨some 8, none, (.box (.tmp 3))⟩
  (.seq ⟨some 9, none, (.box (.tmp 4))⟩
  (.seq ⟨some 10, none, (.alloc [(.v (.int .i64 0)), (.v (.int .i64 0)), (.v (.bool false)), (.v (.int .i64 0)), (.v (.int .i64 0)), (.v (.int .i64 0)), (.v (.slice none 0 0)), (.v (.bool false)), (.v (.int .i64 0)), (.v (.int .i64 0)), (.v (.int .i64 0)), (.v (.slice none 0 0)), (.v (.bool false)), (.v (.int .i64 0)), (.v (.int .i64 0)), (.v (.int .i64 0)), (.v (.slice none 0 0)), (.v (.bool false)), (.v (.int .i64 0)), (.v (.int .i64 0)), (.v (.int .i64 0)), (.v (.slice none 0 0))])⟩
  (.seq ⟨some 11, none, (.ofA (.mv (.cst (.v (.int .i64 0)))))⟩
  .done))))))))
 (.seq (.tree (.seq ⟨some 14, none, (.ofA (.load (some 22) (.tmp 5)))⟩
  (.seq ⟨some 15, none, (.ofA (.load none (.tmp 6)))⟩
  (.seq ⟨some 16, none, (.call (.cst (.fn 141 [])) [(.tmp 14), (.tmp 15)])⟩
  (.seq ⟨some 12, none, (.ofA (.mv (.tmp 16)))⟩
  .done)))))
 (.seq (.block 0 (.seq (.tree (.seq ⟨some 18, none, (.ofA (.mv (.tmp 12)))⟩
  (.seq ⟨some 19, none, (.ofA (.bin .eql (.tmp 18) (.cst (.v (.int .i64 0)))))⟩
  (.seq ⟨some 17, none, (.ofA (.mv (.tmp 19)))⟩
  .done))))
 (.cond (.tmp 17)
 (.seq (.tree (.seq ⟨some 20, none, (.build [(.v (.int .i64 0)), (.v (.int .i64 0)), (.v (.bool false)), (.v (.int .i64 0)), (.v (.int .i64 0)), (.v (.int .i64 0)), (.v (.slice none 0 0)), (.v (.bool false)), (.v (.int .i64 0)), (.v (.int .i64 0)), (.v (.int .i64 0)), (.v (.slice none 0 0)), (.v (.bool false)), (.v (.int .i64 0)), (.v (.int .i64 0)), (.v (.int .i64 0)), (.v (.slice none 0 0)), (.v (.bool false)), (.v (.int .i64 0)), (.v (.int .i64 0)), (.v (.int .i64 0)), (.v (.slice none 0 0))] [])⟩
  (.seq ⟨none, none, (.store 22 (.tmp 10) (.tmp 20))⟩
  (.seq ⟨some 11, none, (.ofA (.mv (.cst (.v (.int .i64 7)))))⟩
  .done))))
 .ret)
 (.seq (.tree (.seq ⟨some 22, none, (.ofA (.mv (.tmp 12)))⟩
  (.seq ⟨some 23, none, (.ofA (.bin .neq (.tmp 22) (.cst (.v (.int .i64 6)))))⟩
  (.seq ⟨some 21, none, (.ofA (.mv (.tmp 23)))⟩
  .done))))
 (.cond (.tmp 21)
 (.seq (.tree (.seq ⟨some 24, none, (.build [(.v (.int .i64 0)), (.v (.int .i64 0)), (.v (.bool false)), (.v (.int .i64 0)), (.v (.int .i64 0)), (.v (.int .i64 0)), (.v (.slice none 0 0)), (.v (.bool false)), (.v (.int .i64 0)), (.v (.int .i64 0)), (.v (.int .i64 0)), (.v (.slice none 0 0)), (.v (.bool false)), (.v (.int .i64 0)), (.v (.int .i64 0)), (.v (.int .i64 0)), (.v (.slice none 0 0)), (.v (.bool false)), (.v (.int .i64 0)), (.v (.int .i64 0)), (.v (.int .i64 0)), (.v (.slice none 0 0))] [])⟩
  (.seq ⟨some 25, none, (.ofA (.mv (.tmp 12)))⟩
  (.seq ⟨none, none, (.store 22 (.tmp 10) (.tmp 24))⟩
  (.seq ⟨some 11, none, (.ofA (.mv (.tmp 25)))⟩
  .done)))))
 .ret)
 .skip)))))
 (.seq (.seq (.tree (.seq ⟨some 26, none, (.ofA (.load none (.tmp 7)))⟩
  (.seq ⟨some 27, none, (.ofA (.load none (.tmp 8)))⟩
  (.seq ⟨some 28, none, (.call (.cst (.fn 142 [])) [(.tmp 26), (.tmp 27)])⟩
  (.seq ⟨some 13, none, (.ofA (.mv (.tmp 28)))⟩
  .done)))))
 (.seq (.tree (.seq ⟨some 29, none, (.ofA (.mv (.tmp 13)))⟩
  (.seq ⟨some 30, none, (.ofA (.bin .neq (.tmp 29) (.cst (.v (.int .i64 0)))))⟩
  .done)))
 (.cond (.tmp 30)
 (.seq (.tree (.seq ⟨some 31, none, (.build [(.v (.int .i64 0)), (.v (.int .i64 0)), (.v (.bool false)), (.v (.int .i64 0)), (.v (.int .i64 0)), (.v (.int .i64 0)), (.v (.slice none 0 0)), (.v (.bool false)), (.v (.int .i64 0)), (.v (.int .i64 0)), (.v (.int .i64 0)), (.v (.slice none 0 0)), (.v (.bool false)), (.v (.int .i64 0)), (.v (.int .i64 0)), (.v (.int .i64 0)), (.v (.slice none 0 0)), (.v (.bool false)), (.v (.int .i64 0)), (.v (.int .i64 0)), (.v (.int .i64 0)), (.v (.slice none 0 0))] [])⟩
  (.seq ⟨some 32, none, (.ofA (.mv (.tmp 13)))⟩
  (.seq ⟨none, none, (.store 22 (.tmp 10) (.tmp 31))⟩
  (.seq ⟨some 11, none, (.ofA (.mv (.tmp 32)))⟩
  .done)))))
 .ret)
 .skip)))
 (.seq (.seq (.tree (.seq ⟨some 33, none, (.ofA (.faddr 1 (.tmp 5)))⟩
  (.seq ⟨some 34, none, (.ofA (.load none (.tmp 33)))⟩
  (.seq ⟨some 35, none, (.ofA (.bin .eql (.tmp 34) (.cst (.v (.int .i64 2147483647)))))⟩
  .done))))
 (.cond (.tmp 35)
 (.seq (.tree (.seq ⟨some 36, none, (.build [(.v (.int .i64 0)), (.v (.int .i64 0)), (.v (.bool false)), (.v (.int .i64 0)), (.v (.int .i64 0)), (.v (.int .i64 0)), (.v (.slice none 0 0)), (.v (.bool false)), (.v (.int .i64 0)), (.v (.int .i64 0)), (.v (.int .i64 0)), (.v (.slice none 0 0)), (.v (.bool false)), (.v (.int .i64 0)), (.v (.int .i64 0)), (.v (.int .i64 0)), (.v (.slice none 0 0)), (.v (.bool false)), (.v (.int .i64 0)), (.v (.int .i64 0)), (.v (.int .i64 0)), (.v (.slice none 0 0))] [])⟩
  (.seq ⟨none, none, (.store 22 (.tmp 10) (.tmp 36))⟩
  (.seq ⟨some 11, none, (.ofA (.mv (.cst (.v (.int .i64 4)))))⟩
  .done))))
 .ret)
 .skip))
 (.seq (.tree (.seq ⟨some 37, none, (.ofA (.load (some 22) (.tmp 5)))⟩
  (.seq ⟨some 38, none, (.ofA (.mkfn 144 [(.tmp 7), (.tmp 8), (.tmp 9), (.tmp 6)]))⟩
  (.seq ⟨some 39, none, (.call (.cst (.fn 143 [])) [(.tmp 37), (.tmp 38)])⟩
  (.seq ⟨some 40, none, (.ofA (.extract 0 (.tmp 39)))⟩
  (.seq ⟨some 41, none, (.ofA (.extract 1 (.tmp 39)))⟩
  (.seq ⟨none, none, (.store 22 (.tmp 10) (.tmp 40))⟩
  (.seq ⟨some 11, none, (.ofA (.mv (.tmp 41)))⟩
  .done))))))))
 .ret))))))
def r79 : List XR := [.cell 10 (some 22), .tmp 11]
theorem fn79 : FnX Tryz.prog 79 EFF 42 x79 r79 := ⟨_, Tryz.func79, by kernel_rfl, by kernel_rfl, by kernel_rfl, by kernel_rfl⟩
-- (*almshouse/house.House).free (1 parameters)
def x80 : XC := (.seq (.tree (.seq ⟨some 2, none, (.ofA (.mv (.cst (.v (.slice none 0 0)))))⟩
  .done))
 (.seq (.tree (.take ⟨some 3, none, (.ofA (.mv (.tmp 0)))⟩
  (.take ⟨some 4, none, (.ofA (.nilc (.tmp 3)))⟩
  (.take ⟨some 5, none, (.ofA (.faddr 3 (.tmp 4)))⟩
  (.take ⟨some 6, none, (.ofA (.load (some 22) (.tmp 5)))⟩
  (.take ⟨some 7, none, (.ofA (.mv (.tmp 0)))⟩
  (.take ⟨some 8, none, (.ofA (.nilc (.tmp 7)))⟩
  (.take ⟨some 9, none, (.ofA (.faddr 0 (.tmp 8)))⟩
  (.take ⟨some 10, none, (.ofA (.load none (.tmp 9)))⟩
  (.take ⟨some 12, none, (.ofA (.mv (.tmp 0)))⟩
  (.take ⟨some 13, none, (.ofA (.nilc (.tmp 12)))⟩
  (.take ⟨some 14, none, (.ofA (.faddr 0 (.tmp 13)))⟩
  (.take ⟨some 15, none, (.ofA (.load none (.tmp 14)))⟩
  (.take ⟨some 16, none, (.ofA (.mkbnd 126 [(.tmp 15)]))⟩
  (.act true [(⟨some 11, none, (.call (.cst (.fn 130 [])) [(.tmp 10)])⟩,
 (.act true [(⟨some 17, none, (.call (.cst (.fn 145 [])) [(.tmp 6), (.tmp 11), (.tmp 16)])⟩,
 (.take ⟨some 2, none, (.ofA (.mv (.tmp 17)))⟩
  .done))]))])))))))))))))))
 .ret))
def r80 : List XR := [.tmp 2]
theorem fn80 : FnX Tryz.prog 80 EFF 18 x80 r80 := ⟨_, Tryz.func80, by kernel_rfl, by kernel_rfl, by kernel_rfl, by kernel_rfl⟩
-- almshouse/rule.Total (3 parameters)
def x81 : XC := (.seq (.tree (.seq ⟨some 6, none, (.ofA (.mv (.cst (.v (.int .i64 0)))))⟩
  .done))
 (.seq (.seq (.tree (.seq ⟨some 7, none, (.ofA (.mv (.tmp 0)))⟩
  (.seq ⟨some 8, none, (.ofA (.mv (.tmp 1)))⟩
  (.seq ⟨some 9, none, (.call (.cst (.fn 142 [])) [(.tmp 7), (.tmp 8)])⟩
  (.seq ⟨some 10, none, (.ofA (.bin .neq (.tmp 9) (.cst (.v (.int .i64 0)))))⟩
  (.seq ⟨some 11, none, (.ofA (.mv (.tmp 10)))⟩
  (.seq ⟨some 12, some (11, false), (.ofA (.mv (.tmp 2)))⟩
  (.seq ⟨some 13, some (11, false), (.call (.cst (.fn 146 [])) [(.tmp 12)])⟩
  (.seq ⟨some 14, some (11, false), (.ofA (.un .not (.tmp 13)))⟩
  (.seq ⟨some 15, none, (.ofA (.pick (.tmp 11) (.cst (.v (.bool true))) (.tmp 14)))⟩
  .done))))))))))
 (.cond (.tmp 15)
 (.seq (.tree (.seq ⟨some 6, none, (.ofA (.mv (.cst (.v (.int .i64 0)))))⟩
  .done))
 .ret)
 .skip))
 (.seq (.tree (.seq ⟨some 16, none, (.ofA (.mv (.tmp 0)))⟩
  (.seq ⟨some 17, none, (.ofA (.mv (.tmp 2)))⟩
  (.seq ⟨some 18, none, (.call (.cst (.fn 147 [])) [(.tmp 16), (.tmp 17)])⟩
  (.seq ⟨some 19, none, (.ofA (.mv (.tmp 1)))⟩
  (.seq ⟨some 20, none, (.ofA (.bin .add (.tmp 18) (.tmp 19)))⟩
  (.seq ⟨some 6, none, (.ofA (.mv (.tmp 20)))⟩
  .done)))))))
 .ret)))
def r81 : List XR := [.tmp 6]
theorem fn81 : FnX Tryz.prog 81 EFF 21 x81 r81 := ⟨_, Tryz.func81, by kernel_rfl, by kernel_rfl, by kernel_rfl, by kernel_rfl⟩
-- (*almshouse/house.House).pages (1 parameters)
def x82 : XC := (.seq (.tree (.seq ⟨some 2, none, (.ofA (.mv (.cst (.v (.int .i64 0)))))⟩
  .done))
 (.seq (.tree (.seq ⟨some 3, none, (.ofA (.mv (.tmp 0)))⟩
  (.seq ⟨some 4, none, (.ofA (.nilc (.tmp 3)))⟩
  (.seq ⟨some 5, none, (.ofA (.faddr 0 (.tmp 4)))⟩
  (.seq ⟨some 6, none, (.ofA (.load none (.tmp 5)))⟩
  (.seq ⟨some 7, none, (.call (.cst (.fn 54 [])) [(.tmp 6)])⟩
  (.seq ⟨some 8, none, (.ofA (.field 3 none (.tmp 7)))⟩
  (.seq ⟨some 2, none, (.ofA (.mv (.tmp 8)))⟩
  .done))))))))
 .ret))
def r82 : List XR := [.tmp 2]
theorem fn82 : FnX Tryz.prog 82 EFF 9 x82 r82 := ⟨_, Tryz.func82, by kernel_rfl, by kernel_rfl, by kernel_rfl, by kernel_rfl⟩
-- (*almshouse/house.House).blank (2 parameters)
def x83 : XC := (.seq (.tree (.seq ⟨some 4, none, (.ofA (.mv (.cst (.v (.int .i64 0)))))⟩
  .done))
 (.seq (.seq (.tree (.seq ⟨some 8, none, (.ofA (.mv (.tmp 1)))⟩
  (.seq ⟨some 9, none, (.ofA (.len (.tmp 8)))⟩
  (.seq ⟨some 10, none, (.ofA (.mv (.cst (.v (.int .i64 0)))))⟩
  .done))))
 (.block 0 (.loop (.seq (.tree (.seq ⟨some 11, none, (.ofA (.bin .lss (.tmp 10) (.tmp 9)))⟩
  .done))
 (.seq (.cond (.tmp 11)
 .skip
 (.exit 0))
 (.seq (.block 1 (.seq (.tree (.seq ⟨some 12, none, (.ofA (.isl 1 (.tmp 8) (.tmp 10)))⟩
  (.seq ⟨some 13, none, (.ofA (.load none (.tmp 12)))⟩
  (.seq ⟨some 6, none, (.ofA (.mv (.tmp 13)))⟩
  .done))))
 (.seq (.seq (.tree (.seq ⟨some 14, none, (.ofA (.mv (.tmp 0)))⟩
  (.seq ⟨some 15, none, (.ofA (.nilc (.tmp 14)))⟩
  (.seq ⟨some 16, none, (.ofA (.faddr 0 (.tmp 15)))⟩
  (.seq ⟨some 17, none, (.ofA (.load none (.tmp 16)))⟩
  (.seq ⟨some 18, none, (.ofA (.mv (.tmp 6)))⟩
  (.seq ⟨some 19, none, (.call (.cst (.fn 136 [])) [(.tmp 17), (.tmp 18)])⟩
  .done)))))))
 (.cond (.tmp 19)
 (.exit 1)
 .skip))
 (.seq (.tree (.seq ⟨some 20, none, (.ofA (.mv (.tmp 0)))⟩
  (.seq ⟨some 21, none, (.ofA (.nilc (.tmp 20)))⟩
  (.seq ⟨some 22, none, (.ofA (.faddr 0 (.tmp 21)))⟩
  (.seq ⟨some 23, none, (.ofA (.load none (.tmp 22)))⟩
  (.seq ⟨some 24, none, (.ofA (.mv (.tmp 6)))⟩
  (.seq ⟨some 25, none, (.call (.cst (.fn 134 [])) [(.tmp 23), (.cst (.v (.int .i64 4))), (.tmp 24)])⟩
  (.seq ⟨some 7, none, (.ofA (.mv (.tmp 25)))⟩
  .done))))))))
 (.seq (.tree (.seq ⟨some 26, none, (.ofA (.mv (.tmp 7)))⟩
  (.seq ⟨some 27, none, (.ofA (.bin .neq (.tmp 26) (.cst (.v (.int .i64 0)))))⟩
  .done)))
 (.cond (.tmp 27)
 (.seq (.tree (.seq ⟨some 28, none, (.ofA (.mv (.tmp 7)))⟩
  (.seq ⟨some 4, none, (.ofA (.mv (.tmp 28)))⟩
  .done)))
 .ret)
 .skip))))))
 (.tree (.seq ⟨some 29, none, (.ofA (.bin .add (.tmp 10) (.cst (.v (.int .i64 1)))))⟩
  (.seq ⟨some 10, none, (.ofA (.mv (.tmp 29)))⟩
  .done)))))))))
 (.seq (.tree (.seq ⟨some 4, none, (.ofA (.mv (.cst (.v (.int .i64 0)))))⟩
  .done))
 .ret)))
def r83 : List XR := [.tmp 4]
theorem fn83 : FnX Tryz.prog 83 EFF 30 x83 r83 := ⟨_, Tryz.func83, by kernel_rfl, by kernel_rfl, by kernel_rfl, by kernel_rfl⟩
-- (*almshouse/house.House).keep (4 parameters)
def x84 : XC := (.seq (.tree (.seq ⟨some 5, none, (.box (.tmp 1))⟩
  (.seq ⟨some 8, none, (.ofA (.mv (.cst (.v (.int .i64 0)))))⟩
  .done)))
 (.seq (.seq (.tree (.seq ⟨some 9, none, (.ofA (.mv (.tmp 2)))⟩
  (.seq ⟨some 10, none, (.ofA (.bin .eql (.tmp 9) (.cst (.v (.int .i64 0)))))⟩
  .done)))
 (.cond (.tmp 10)
 (.tree (.take ⟨some 11, none, (.ofA (.mv (.tmp 0)))⟩
  (.take ⟨some 12, none, (.ofA (.nilc (.tmp 11)))⟩
  (.take ⟨some 13, none, (.ofA (.faddr 0 (.tmp 12)))⟩
  (.take ⟨some 14, none, (.ofA (.load none (.tmp 13)))⟩
  (.take ⟨some 15, none, (.ofA (.load (some 22) (.tmp 5)))⟩
  (.alt [false] [(⟨some 16, none, (.call (.cst (.fn 148 [])) [(.tmp 14), (.tmp 15)])⟩,
 (.take ⟨some 2, none, (.ofA (.mv (.tmp 16)))⟩
  .done))])))))))
 .skip))
 (.seq (.seq (.tree (.seq ⟨some 17, none, (.ofA (.mv (.tmp 2)))⟩
  (.seq ⟨some 18, none, (.ofA (.bin .eql (.tmp 17) (.cst (.v (.int .i64 0)))))⟩
  .done)))
 (.cond (.tmp 18)
 (.seq (.tree (.seq ⟨some 19, none, (.ofA (.mv (.tmp 0)))⟩
  (.seq ⟨some 20, none, (.ofA (.load (some 22) (.tmp 5)))⟩
  (.seq ⟨some 21, none, (.ofA (.nilc (.tmp 19)))⟩
  (.seq ⟨some 22, none, (.ofA (.faddr 3 (.tmp 21)))⟩
  (.seq ⟨none, none, (.store 22 (.tmp 22) (.tmp 20))⟩
  .done))))))
 (.tree (.seq ⟨some 23, none, (.ofA (.mv (.tmp 3)))⟩
  (.seq ⟨some 24, none, (.call (.tmp 23) [])⟩
  .done))))
 .skip))
 (.seq (.tree (.seq ⟨some 25, none, (.ofA (.mv (.tmp 0)))⟩
  (.seq ⟨some 26, none, (.call (.cst (.fn 73 [])) [(.tmp 25)])⟩
  .done)))
 (.seq (.tree (.seq ⟨some 27, none, (.ofA (.mv (.tmp 2)))⟩
  (.seq ⟨some 8, none, (.ofA (.mv (.tmp 27)))⟩
  .done)))
 .ret)))))
def r84 : List XR := [.tmp 8]
theorem fn84 : FnX Tryz.prog 84 EFF 28 x84 r84 := ⟨_, Tryz.func84, by kernel_rfl, by kernel_rfl, by kernel_rfl, by kernel_rfl⟩
-- (*almshouse/house.House).Create$1 (0 parameters)
def x85 : XC := (.seq (.tree (.take ⟨some 6, none, (.ofA (.load none (.tmp 0)))⟩
  (.take ⟨some 7, none, (.ofA (.nilc (.tmp 6)))⟩
  (.take ⟨some 8, none, (.ofA (.faddr 0 (.tmp 7)))⟩
  (.take ⟨some 9, none, (.ofA (.load none (.tmp 8)))⟩
  (.take ⟨some 10, none, (.ofA (.load none (.tmp 1)))⟩
  (.take ⟨some 11, none, (.ofA (.load none (.tmp 1)))⟩
  (.take ⟨some 12, none, (.ofA (.faddr 2 (.tmp 2)))⟩
  (.take ⟨some 13, none, (.ofA (.iarr 4 5 (.tmp 12) (.tmp 11)))⟩
  (.take ⟨some 14, none, (.ofA (.load (some 5) (.tmp 13)))⟩
  (.act true [(⟨some 15, none, (.call (.cst (.fn 11 [])) [(.tmp 9), (.tmp 10), (.tmp 14)])⟩,
 (.take ⟨some 5, none, (.ofA (.mv (.tmp 15)))⟩
  (.take ⟨some 16, none, (.ofA (.extract 0 (.tmp 5)))⟩
  (.take ⟨some 17, none, (.ofA (.extract 1 (.tmp 5)))⟩
  (.take ⟨some 3, none, (.ofA (.mv (.tmp 16)))⟩
  (.take ⟨some 4, none, (.ofA (.mv (.tmp 17)))⟩
  .done))))))])))))))))))
 (.tree (.take ⟨some 18, none, (.ofA (.load none (.tmp 0)))⟩
  (.take ⟨some 19, none, (.ofA (.load none (.tmp 1)))⟩
  (.take ⟨some 20, none, (.ofA (.mv (.tmp 3)))⟩
  (.take ⟨some 23, none, (.ofA (.nilc (.tmp 18)))⟩
  (.take ⟨some 24, none, (.ofA (.faddr 25 (.tmp 23)))⟩
  (.alt [true] [(⟨some 21, none, (.call (.cst (.fn 86 [])) [])⟩,
 (.alt [true] [(⟨some 22, none, (.build [(.v (.pointer none)), (.v (.pointer none))] [(0, 1, (.tmp 20)), (1, 1, (.tmp 21))])⟩,
 (.take ⟨some 25, none, (.ofA (.iarr 4 2 (.tmp 24) (.tmp 19)))⟩
  (.alt [false] [(⟨none, none, (.store 2 (.tmp 25) (.tmp 22))⟩,
 .done)])))]))]))))))))
def r85 : List XR := []
theorem fn85 : FnX Tryz.prog 85 EFF 26 x85 r85 := ⟨_, Tryz.func85, by kernel_rfl, by kernel_rfl, by kernel_rfl, by kernel_rfl⟩
-- almshouse/queue.New (0 parameters)
def x86 : XC := (.seq (.tree (.seq ⟨some 0, none, (.ofA (.mv (.cst (.v (.pointer none)))))⟩
  .done))
 (.seq (.tree (.seq ⟨some 1, none, (.build [(.v (.slice none 0 0)), (.v (.slice none 0 0))] [])⟩
  (.seq ⟨some 2, none, (.box (.tmp 1))⟩
  (.seq ⟨some 0, none, (.ofA (.mv (.tmp 2)))⟩
  .done))))
 .ret))
def r86 : List XR := [.tmp 0]
theorem fn86 : FnX Tryz.prog 86 EFF 3 x86 r86 := ⟨_, Tryz.func86, by kernel_rfl, by kernel_rfl, by kernel_rfl, by kernel_rfl⟩
-- (*almshouse/queue.Queue).Submit (2 parameters)
def x96 : XC := (.seq (.tree (.seq ⟨some 3, none, (.box (.tmp 1))⟩
  (.seq ⟨some 4, none, (.ofA (.mv (.cst (.v (.int .i64 0)))))⟩
  .done)))
 (.seq (.seq (.tree (.seq ⟨some 6, none, (.ofA (.mv (.tmp 0)))⟩
  (.seq ⟨some 7, none, (.ofA (.eqn false 1 (.tmp 6) (.cst (.v (.pointer none)))))⟩
  .done)))
 (.cond (.tmp 7)
 (.seq (.tree (.seq ⟨some 4, none, (.ofA (.mv (.cst (.v (.int .i64 1)))))⟩
  .done))
 .ret)
 .skip))
 (.seq (.seq (.tree (.seq ⟨some 8, none, (.ofA (.load (some 3) (.tmp 3)))⟩
  (.seq ⟨some 9, none, (.call (.cst (.fn 153 [])) [(.tmp 8)])⟩
  (.seq ⟨some 5, none, (.ofA (.mv (.tmp 9)))⟩
  .done))))
 (.seq (.tree (.seq ⟨some 10, none, (.ofA (.mv (.tmp 5)))⟩
  (.seq ⟨some 11, none, (.ofA (.bin .neq (.tmp 10) (.cst (.v (.int .i64 0)))))⟩
  .done)))
 (.cond (.tmp 11)
 (.seq (.tree (.seq ⟨some 12, none, (.ofA (.mv (.tmp 5)))⟩
  (.seq ⟨some 4, none, (.ofA (.mv (.tmp 12)))⟩
  .done)))
 .ret)
 .skip)))
 (.seq (.seq (.tree (.seq ⟨some 13, none, (.ofA (.mv (.tmp 0)))⟩
  (.seq ⟨some 14, none, (.ofA (.nilc (.tmp 13)))⟩
  (.seq ⟨some 15, none, (.ofA (.faddr 0 (.tmp 14)))⟩
  (.seq ⟨some 16, none, (.ofA (.load none (.tmp 15)))⟩
  (.seq ⟨some 17, none, (.ofA (.len (.tmp 16)))⟩
  (.seq ⟨some 18, none, (.ofA (.bin .geq (.tmp 17) (.cst (.v (.int .i64 8)))))⟩
  .done)))))))
 (.cond (.tmp 18)
 (.seq (.tree (.seq ⟨some 4, none, (.ofA (.mv (.cst (.v (.int .i64 8)))))⟩
  .done))
 .ret)
 .skip))
 (.seq (.tree (.take ⟨some 19, none, (.ofA (.mv (.tmp 0)))⟩
  (.take ⟨some 20, none, (.ofA (.mv (.tmp 0)))⟩
  (.take ⟨some 21, none, (.ofA (.nilc (.tmp 20)))⟩
  (.take ⟨some 22, none, (.ofA (.faddr 0 (.tmp 21)))⟩
  (.take ⟨some 23, none, (.ofA (.load none (.tmp 22)))⟩
  (.take ⟨some 24, none, (.ofA (.load (some 3) (.tmp 3)))⟩
  (.alt [true] [(⟨some 25, none, (.buildSl 3 1 [(.v (.int .i64 0)), (.v (.int .i64 0)), (.v (.string ⟨#[]⟩))] [(0, 3, (.tmp 24))])⟩,
 (.alt [false] [(⟨some 26, none, (.app 3 32 (.tmp 23) (.tmp 25))⟩,
 (.take ⟨some 27, none, (.ofA (.nilc (.tmp 19)))⟩
  (.take ⟨some 28, none, (.ofA (.faddr 0 (.tmp 27)))⟩
  (.alt [false] [(⟨none, none, (.store 1 (.tmp 28) (.tmp 26))⟩,
 .done)]))))]))]))))))))
 (.seq (.tree (.seq ⟨some 4, none, (.ofA (.mv (.cst (.v (.int .i64 0)))))⟩
  .done))
 .ret))))))
def r96 : List XR := [.tmp 4]
theorem fn96 : FnX Tryz.prog 96 EFF 29 x96 r96 := ⟨_, Tryz.func96, by kernel_rfl, by kernel_rfl, by kernel_rfl, by kernel_rfl⟩
-- (*almshouse/power.Power).Gone (1 parameters)
def x99 : XC := (.seq (.tree (.seq ⟨some 2, none, (.ofA (.mv (.cst (.v (.bool false)))))⟩
  .done))
 (.seq (.tree (.seq ⟨some 3, none, (.ofA (.mv (.tmp 0)))⟩
  (.seq ⟨some 4, none, (.ofA (.eqn false 1 (.tmp 3) (.cst (.v (.pointer none)))))⟩
  (.seq ⟨some 5, none, (.ofA (.mv (.tmp 4)))⟩
  (.seq ⟨some 6, some (5, false), (.ofA (.mv (.tmp 0)))⟩
  (.seq ⟨some 7, some (5, false), (.ofA (.nilc (.tmp 6)))⟩
  (.seq ⟨some 8, some (5, false), (.ofA (.faddr 1 (.tmp 7)))⟩
  (.seq ⟨some 9, some (5, false), (.call (.cst (.fn 156 [])) [(.tmp 8)])⟩
  (.seq ⟨some 10, none, (.ofA (.pick (.tmp 5) (.cst (.v (.bool true))) (.tmp 9)))⟩
  (.seq ⟨some 2, none, (.ofA (.mv (.tmp 10)))⟩
  .done))))))))))
 .ret))
def r99 : List XR := [.tmp 2]
theorem fn99 : FnX Tryz.prog 99 EFF 11 x99 r99 := ⟨_, Tryz.func99, by kernel_rfl, by kernel_rfl, by kernel_rfl, by kernel_rfl⟩
-- (*almshouse/queue.Queue).Next (1 parameters)
def x100 : XC := (.seq (.tree (.seq ⟨some 2, none, (.alloc [(.v (.int .i64 0)), (.v (.int .i64 0)), (.v (.string ⟨#[]⟩))])⟩
  (.seq ⟨some 3, none, (.ofA (.mv (.cst (.v (.bool false)))))⟩
  .done)))
 (.seq (.seq (.tree (.seq ⟨some 5, none, (.ofA (.mv (.tmp 0)))⟩
  (.seq ⟨some 6, none, (.call (.cst (.fn 78 [])) [(.tmp 5)])⟩
  (.seq ⟨some 7, none, (.ofA (.bin .eql (.tmp 6) (.cst (.v (.int .i64 0)))))⟩
  .done))))
 (.cond (.tmp 7)
 (.seq (.tree (.seq ⟨some 8, none, (.build [(.v (.int .i64 0)), (.v (.int .i64 0)), (.v (.string ⟨#[]⟩))] [])⟩
  (.seq ⟨none, none, (.store 3 (.tmp 2) (.tmp 8))⟩
  (.seq ⟨some 3, none, (.ofA (.mv (.cst (.v (.bool false)))))⟩
  .done))))
 .ret)
 .skip))
 (.seq (.tree (.seq ⟨some 9, none, (.ofA (.mv (.tmp 0)))⟩
  (.seq ⟨some 10, none, (.ofA (.nilc (.tmp 9)))⟩
  (.seq ⟨some 11, none, (.ofA (.faddr 0 (.tmp 10)))⟩
  (.seq ⟨some 12, none, (.ofA (.load none (.tmp 11)))⟩
  (.seq ⟨some 13, none, (.ofA (.isl 3 (.tmp 12) (.cst (.v (.int .i64 0)))))⟩
  (.seq ⟨some 14, none, (.ofA (.load (some 3) (.tmp 13)))⟩
  (.seq ⟨some 4, none, (.alloc [(.v (.int .i64 0)), (.v (.int .i64 0)), (.v (.string ⟨#[]⟩))])⟩
  (.seq ⟨none, none, (.store 3 (.tmp 4) (.tmp 14))⟩
  .done)))))))))
 (.seq (.tree (.seq ⟨some 15, none, (.ofA (.mv (.tmp 0)))⟩
  (.seq ⟨some 16, none, (.ofA (.mv (.tmp 0)))⟩
  (.seq ⟨some 17, none, (.ofA (.nilc (.tmp 16)))⟩
  (.seq ⟨some 18, none, (.ofA (.faddr 0 (.tmp 17)))⟩
  (.seq ⟨some 19, none, (.ofA (.load none (.tmp 18)))⟩
  (.seq ⟨some 20, none, (.ofA (.slc 3 (.tmp 19) (some (.cst (.v (.int .i64 1)))) none))⟩
  (.seq ⟨some 21, none, (.ofA (.nilc (.tmp 15)))⟩
  (.seq ⟨some 22, none, (.ofA (.faddr 0 (.tmp 21)))⟩
  (.seq ⟨none, none, (.store 1 (.tmp 22) (.tmp 20))⟩
  .done))))))))))
 (.seq (.tree (.seq ⟨some 23, none, (.ofA (.load (some 3) (.tmp 4)))⟩
  (.seq ⟨none, none, (.store 3 (.tmp 2) (.tmp 23))⟩
  (.seq ⟨some 3, none, (.ofA (.mv (.cst (.v (.bool true)))))⟩
  .done))))
 .ret)))))
def r100 : List XR := [.cell 2 (some 3), .tmp 3]
theorem fn100 : FnX Tryz.prog 100 EFF 24 x100 r100 := ⟨_, Tryz.func100, by kernel_rfl, by kernel_rfl, by kernel_rfl, by kernel_rfl⟩
-- almshouse/house.do (2 parameters)
def x101 : XC := (.seq (.tree (.seq ⟨some 3, none, (.box (.tmp 1))⟩
  (.seq ⟨some 4, none, (.ofA (.mv (.cst (.v (.string ⟨#[]⟩)))))⟩
  (.seq ⟨some 5, none, (.ofA (.mv (.cst (.v (.int .i64 0)))))⟩
  .done))))
 (.seq (.seq (.tree (.seq ⟨some 6, none, (.ofA (.faddr 0 (.tmp 3)))⟩
  (.seq ⟨some 7, none, (.ofA (.load none (.tmp 6)))⟩
  .done)))
 (.block 0 (.seq (.tree (.seq ⟨some 9, none, (.ofA (.bin .eql (.tmp 7) (.cst (.v (.int .i64 1)))))⟩
  (.seq ⟨some 8, none, (.ofA (.mv (.tmp 9)))⟩
  .done)))
 (.cond (.tmp 8)
 (.seq (.tree (.seq ⟨some 10, none, (.ofA (.mv (.tmp 0)))⟩
  (.seq ⟨some 11, none, (.ofA (.faddr 1 (.tmp 3)))⟩
  (.seq ⟨some 12, none, (.ofA (.load none (.tmp 11)))⟩
  (.seq ⟨some 13, none, (.call (.cst (.fn 7 [])) [(.tmp 10), (.tmp 12)])⟩
  (.seq ⟨some 14, none, (.ofA (.extract 0 (.tmp 13)))⟩
  (.seq ⟨some 15, none, (.ofA (.extract 1 (.tmp 13)))⟩
  (.seq ⟨some 4, none, (.ofA (.mv (.tmp 14)))⟩
  (.seq ⟨some 5, none, (.ofA (.mv (.tmp 15)))⟩
  .done)))))))))
 .ret)
 (.seq (.tree (.seq ⟨some 17, none, (.ofA (.bin .eql (.tmp 7) (.cst (.v (.int .i64 2)))))⟩
  (.seq ⟨some 16, none, (.ofA (.mv (.tmp 17)))⟩
  .done)))
 (.cond (.tmp 16)
 (.seq (.tree (.seq ⟨some 18, none, (.ofA (.mv (.tmp 0)))⟩
  (.seq ⟨some 19, none, (.ofA (.faddr 1 (.tmp 3)))⟩
  (.seq ⟨some 20, none, (.ofA (.load none (.tmp 19)))⟩
  (.seq ⟨some 21, none, (.ofA (.faddr 2 (.tmp 3)))⟩
  (.seq ⟨some 22, none, (.ofA (.load none (.tmp 21)))⟩
  (.seq ⟨some 23, none, (.call (.cst (.fn 12 [])) [(.tmp 18), (.tmp 20), (.tmp 22)])⟩
  (.seq ⟨some 4, none, (.ofA (.mv (.cst (.v (.string ⟨#[]⟩)))))⟩
  (.seq ⟨some 5, none, (.ofA (.mv (.tmp 23)))⟩
  .done)))))))))
 .ret)
 (.seq (.tree (.seq ⟨some 25, none, (.ofA (.bin .eql (.tmp 7) (.cst (.v (.int .i64 3)))))⟩
  (.seq ⟨some 24, none, (.ofA (.mv (.tmp 25)))⟩
  .done)))
 (.cond (.tmp 24)
 (.seq (.tree (.seq ⟨some 26, none, (.ofA (.mv (.tmp 0)))⟩
  (.seq ⟨some 27, none, (.ofA (.faddr 1 (.tmp 3)))⟩
  (.seq ⟨some 28, none, (.ofA (.load none (.tmp 27)))⟩
  (.seq ⟨some 29, none, (.call (.cst (.fn 13 [])) [(.tmp 26), (.tmp 28)])⟩
  (.seq ⟨some 4, none, (.ofA (.mv (.cst (.v (.string ⟨#[]⟩)))))⟩
  (.seq ⟨some 5, none, (.ofA (.mv (.tmp 29)))⟩
  .done)))))))
 .ret)
 .skip))))))))
 (.seq (.tree (.seq ⟨some 30, none, (.ofA (.mv (.tmp 0)))⟩
  (.seq ⟨some 31, none, (.call (.cst (.fn 14 [])) [(.tmp 30)])⟩
  (.seq ⟨some 4, none, (.ofA (.mv (.cst (.v (.string ⟨#[]⟩)))))⟩
  (.seq ⟨some 5, none, (.ofA (.mv (.tmp 31)))⟩
  .done)))))
 .ret)))
def r101 : List XR := [.tmp 4, .tmp 5]
theorem fn101 : FnX Tryz.prog 101 EFF 32 x101 r101 := ⟨_, Tryz.func101, by kernel_rfl, by kernel_rfl, by kernel_rfl, by kernel_rfl⟩
-- (*almshouse/queue.Queue).Done (2 parameters)
def x102 : XC := (.seq (.tree (.seq ⟨some 3, none, (.box (.tmp 1))⟩
  .done))
 (.seq (.tree (.seq ⟨some 4, none, (.ofA (.mv (.tmp 0)))⟩
  (.seq ⟨some 5, none, (.ofA (.eqn true 1 (.tmp 4) (.cst (.v (.pointer none)))))⟩
  .done)))
 (.cond (.tmp 5)
 (.tree (.take ⟨some 6, none, (.ofA (.mv (.tmp 0)))⟩
  (.take ⟨some 7, none, (.ofA (.mv (.tmp 0)))⟩
  (.take ⟨some 8, none, (.ofA (.nilc (.tmp 7)))⟩
  (.take ⟨some 9, none, (.ofA (.faddr 1 (.tmp 8)))⟩
  (.take ⟨some 10, none, (.ofA (.load none (.tmp 9)))⟩
  (.take ⟨some 11, none, (.ofA (.load (some 3) (.tmp 3)))⟩
  (.alt [true] [(⟨some 12, none, (.buildSl 3 1 [(.v (.int .i64 0)), (.v (.int .i64 0)), (.v (.string ⟨#[]⟩))] [(0, 3, (.tmp 11))])⟩,
 (.alt [false] [(⟨some 13, none, (.app 3 32 (.tmp 10) (.tmp 12))⟩,
 (.take ⟨some 14, none, (.ofA (.nilc (.tmp 6)))⟩
  (.take ⟨some 15, none, (.ofA (.faddr 1 (.tmp 14)))⟩
  (.alt [false] [(⟨none, none, (.store 1 (.tmp 15) (.tmp 13))⟩,
 .done)]))))]))]))))))))
 .skip)))
def r102 : List XR := []
theorem fn102 : FnX Tryz.prog 102 EFF 16 x102 r102 := ⟨_, Tryz.func102, by kernel_rfl, by kernel_rfl, by kernel_rfl, by kernel_rfl⟩
-- (*almshouse/queue.Queue).All (1 parameters)
def x104 : XC := (.seq (.tree (.seq ⟨some 2, none, (.ofA (.mv (.cst (.v (.slice none 0 0)))))⟩
  .done))
 (.seq (.seq (.tree (.seq ⟨some 3, none, (.ofA (.mv (.tmp 0)))⟩
  (.seq ⟨some 4, none, (.ofA (.eqn false 1 (.tmp 3) (.cst (.v (.pointer none)))))⟩
  .done)))
 (.cond (.tmp 4)
 (.seq (.tree (.seq ⟨some 2, none, (.ofA (.mv (.cst (.v (.slice none 0 0)))))⟩
  .done))
 .ret)
 .skip))
 (.seq (.tree (.seq ⟨some 5, none, (.ofA (.mv (.tmp 0)))⟩
  (.seq ⟨some 6, none, (.ofA (.nilc (.tmp 5)))⟩
  (.seq ⟨some 7, none, (.ofA (.faddr 1 (.tmp 6)))⟩
  (.seq ⟨some 8, none, (.ofA (.load none (.tmp 7)))⟩
  (.seq ⟨some 9, none, (.call (.cst (.fn 157 [])) [(.tmp 8)])⟩
  (.seq ⟨some 2, none, (.ofA (.mv (.tmp 9)))⟩
  .done)))))))
 .ret)))
def r104 : List XR := [.tmp 2]
theorem fn104 : FnX Tryz.prog 104 EFF 10 x104 r104 := ⟨_, Tryz.func104, by kernel_rfl, by kernel_rfl, by kernel_rfl, by kernel_rfl⟩
-- almshouse/ledger.Twin (1 parameters)
def x105 : XC := (.seq (.tree (.seq ⟨some 1, none, (.box (.tmp 0))⟩
  (.seq ⟨some 2, none, (.alloc [(.v (.int .i64 0)), (.v (.int .i64 0)), (.v (.bool false)), (.v (.int .i64 0)), (.v (.int .i64 0)), (.v (.int .i64 0)), (.v (.slice none 0 0)), (.v (.bool false)), (.v (.int .i64 0)), (.v (.int .i64 0)), (.v (.int .i64 0)), (.v (.slice none 0 0)), (.v (.bool false)), (.v (.int .i64 0)), (.v (.int .i64 0)), (.v (.int .i64 0)), (.v (.slice none 0 0)), (.v (.bool false)), (.v (.int .i64 0)), (.v (.int .i64 0)), (.v (.int .i64 0)), (.v (.slice none 0 0))])⟩
  .done)))
 (.seq (.seq (.tree (.seq ⟨some 4, none, (.ofA (.mv (.cst (.v (.int .i64 0)))))⟩
  .done))
 (.block 0 (.loop (.seq (.tree (.seq ⟨some 5, none, (.ofA (.bin .lss (.tmp 4) (.cst (.v (.int .i64 4)))))⟩
  .done))
 (.seq (.cond (.tmp 5)
 .skip
 (.exit 0))
 (.seq (.block 1 (.seq (.tree (.seq ⟨some 6, none, (.ofA (.mv (.tmp 4)))⟩
  (.seq ⟨some 3, none, (.ofA (.mv (.tmp 6)))⟩
  .done)))
 (.tree (.seq ⟨some 7, none, (.ofA (.mv (.tmp 3)))⟩
  (.seq ⟨some 8, none, (.ofA (.mv (.tmp 3)))⟩
  (.seq ⟨some 9, none, (.ofA (.faddr 2 (.tmp 1)))⟩
  (.seq ⟨some 10, none, (.ofA (.iarr 4 5 (.tmp 9) (.tmp 8)))⟩
  (.seq ⟨some 11, none, (.ofA (.faddr 4 (.tmp 10)))⟩
  (.seq ⟨some 12, none, (.ofA (.load none (.tmp 11)))⟩
  (.seq ⟨some 13, none, (.call (.cst (.fn 55 [])) [(.tmp 12)])⟩
  (.seq ⟨some 14, none, (.ofA (.faddr 2 (.tmp 1)))⟩
  (.seq ⟨some 15, none, (.ofA (.iarr 4 5 (.tmp 14) (.tmp 7)))⟩
  (.seq ⟨some 16, none, (.ofA (.faddr 4 (.tmp 15)))⟩
  (.seq ⟨none, none, (.store 1 (.tmp 16) (.tmp 13))⟩
  .done))))))))))))))
 (.tree (.seq ⟨some 17, none, (.ofA (.bin .add (.tmp 4) (.cst (.v (.int .i64 1)))))⟩
  (.seq ⟨some 4, none, (.ofA (.mv (.tmp 17)))⟩
  .done)))))))))
 (.seq (.tree (.seq ⟨some 18, none, (.ofA (.load (some 22) (.tmp 1)))⟩
  (.seq ⟨none, none, (.store 22 (.tmp 2) (.tmp 18))⟩
  .done)))
 .ret)))
def r105 : List XR := [.cell 2 (some 22)]
theorem fn105 : FnX Tryz.prog 105 EFF 19 x105 r105 := ⟨_, Tryz.func105, by kernel_rfl, by kernel_rfl, by kernel_rfl, by kernel_rfl⟩
-- almshouse/play.Play (2 parameters)
def x106 : XC := (.seq (.tree (.seq ⟨some 2, none, (.box (.tmp 0))⟩
  (.seq ⟨some 4, none, (.ofA (.mv (.cst (.v (.pointer none)))))⟩
  (.seq ⟨some 5, none, (.ofA (.mv (.cst (.v (.slice none 0 0)))))⟩
  (.seq ⟨some 6, none, (.ofA (.mv (.cst (.v (.int .i64 0)))))⟩
  .done)))))
 (.seq (.seq (.tree (.seq ⟨some 9, none, (.ofA (.mv (.tmp 1)))⟩
  (.seq ⟨some 10, none, (.ofA (.len (.tmp 9)))⟩
  (.seq ⟨some 11, none, (.ofA (.bin .gtr (.tmp 10) (.cst (.v (.int .i64 4096)))))⟩
  .done))))
 (.cond (.tmp 11)
 (.seq (.tree (.seq ⟨some 4, none, (.ofA (.mv (.cst (.v (.pointer none)))))⟩
  (.seq ⟨some 5, none, (.ofA (.mv (.cst (.v (.slice none 0 0)))))⟩
  (.seq ⟨some 6, none, (.ofA (.mv (.cst (.v (.int .i64 4)))))⟩
  .done))))
 .ret)
 .skip))
 (.seq (.tree (.seq ⟨some 13, none, (.ofA (.load (some 9) (.tmp 2)))⟩
  (.seq ⟨some 14, none, (.call (.cst (.fn 70 [])) [(.tmp 13)])⟩
  (.seq ⟨some 12, none, (.ofA (.mv (.tmp 14)))⟩
  (.seq ⟨some 15, none, (.ofA (.extract 0 (.tmp 12)))⟩
  (.seq ⟨some 16, none, (.ofA (.extract 1 (.tmp 12)))⟩
  (.seq ⟨some 7, none, (.ofA (.mv (.tmp 15)))⟩
  (.seq ⟨some 8, none, (.ofA (.mv (.tmp 16)))⟩
  .done))))))))
 (.seq (.seq (.tree (.seq ⟨some 17, none, (.ofA (.mv (.tmp 8)))⟩
  (.seq ⟨some 18, none, (.ofA (.bin .neq (.tmp 17) (.cst (.v (.int .i64 0)))))⟩
  .done)))
 (.cond (.tmp 18)
 (.seq (.tree (.seq ⟨some 19, none, (.ofA (.mv (.tmp 8)))⟩
  (.seq ⟨some 4, none, (.ofA (.mv (.cst (.v (.pointer none)))))⟩
  (.seq ⟨some 5, none, (.ofA (.mv (.cst (.v (.slice none 0 0)))))⟩
  (.seq ⟨some 6, none, (.ofA (.mv (.tmp 19)))⟩
  .done)))))
 .ret)
 .skip))
 (.seq (.tree (.seq ⟨some 20, none, (.ofA (.mv (.tmp 7)))⟩
  (.seq ⟨some 21, none, (.ofA (.mv (.tmp 7)))⟩
  (.seq ⟨some 22, none, (.ofA (.mv (.tmp 1)))⟩
  (.seq ⟨some 23, none, (.call (.cst (.fn 158 [])) [(.tmp 21), (.tmp 22)])⟩
  (.seq ⟨some 4, none, (.ofA (.mv (.tmp 20)))⟩
  (.seq ⟨some 5, none, (.ofA (.mv (.tmp 23)))⟩
  (.seq ⟨some 6, none, (.ofA (.mv (.cst (.v (.int .i64 0)))))⟩
  .done))))))))
 .ret)))))
def r106 : List XR := [.tmp 4, .tmp 5, .tmp 6]
theorem fn106 : FnX Tryz.prog 106 EFF 24 x106 r106 := ⟨_, Tryz.func106, by kernel_rfl, by kernel_rfl, by kernel_rfl, by kernel_rfl⟩
-- almshouse/foreign.Reads (2 parameters)
def x107 : XC := (.seq (.tree (.seq ⟨some 4, none, (.ofA (.mv (.cst (.v (.slice none 0 0)))))⟩
  .done))
 (.seq (.tree (.seq ⟨some 5, none, (.ofA (.mv (.cst (.v (.slice none 0 0)))))⟩
  .done))
 (.seq (.seq (.tree (.seq ⟨some 8, none, (.ofA (.mv (.tmp 0)))⟩
  (.seq ⟨some 9, none, (.ofA (.mv (.tmp 1)))⟩
  (.seq ⟨some 10, none, (.call (.cst (.fn 39 [])) [(.tmp 8), (.tmp 9)])⟩
  (.seq ⟨some 11, none, (.ofA (.len (.tmp 10)))⟩
  (.seq ⟨some 12, none, (.ofA (.mv (.cst (.v (.int .i64 0)))))⟩
  .done))))))
 (.block 0 (.loop (.seq (.tree (.seq ⟨some 13, none, (.ofA (.bin .lss (.tmp 12) (.tmp 11)))⟩
  .done))
 (.seq (.cond (.tmp 13)
 .skip
 (.exit 0))
 (.seq (.block 1 (.seq (.tree (.seq ⟨some 14, none, (.ofA (.isl 3 (.tmp 10) (.tmp 12)))⟩
  (.seq ⟨some 15, none, (.ofA (.load (some 3) (.tmp 14)))⟩
  (.seq ⟨some 7, none, (.alloc [(.v (.int .i64 0)), (.v (.int .i64 0)), (.v (.string ⟨#[]⟩))])⟩
  (.seq ⟨none, none, (.store 3 (.tmp 7) (.tmp 15))⟩
  .done)))))
 (.seq (.tree (.seq ⟨some 16, none, (.ofA (.faddr 2 (.tmp 7)))⟩
  (.seq ⟨some 17, none, (.ofA (.load none (.tmp 16)))⟩
  (.seq ⟨some 18, none, (.ofA (.bin .neq (.tmp 17) (.cst (.v (.string ⟨#[]⟩)))))⟩
  .done))))
 (.cond (.tmp 18)
 (.tree (.seq ⟨some 19, none, (.ofA (.mv (.tmp 5)))⟩
  (.seq ⟨some 20, none, (.ofA (.faddr 2 (.tmp 7)))⟩
  (.seq ⟨some 21, none, (.ofA (.load none (.tmp 20)))⟩
  (.seq ⟨some 22, none, (.buildSl 1 1 [(.v (.string ⟨#[]⟩))] [(0, 1, (.tmp 21))])⟩
  (.seq ⟨some 23, none, (.app 1 16 (.tmp 19) (.tmp 22))⟩
  (.seq ⟨some 5, none, (.ofA (.mv (.tmp 23)))⟩
  .done)))))))
 .skip))))
 (.tree (.seq ⟨some 24, none, (.ofA (.bin .add (.tmp 12) (.cst (.v (.int .i64 1)))))⟩
  (.seq ⟨some 12, none, (.ofA (.mv (.tmp 24)))⟩
  .done)))))))))
 (.seq (.tree (.seq ⟨some 25, none, (.ofA (.mv (.tmp 5)))⟩
  (.seq ⟨some 4, none, (.ofA (.mv (.tmp 25)))⟩
  .done)))
 .ret))))
def r107 : List XR := [.tmp 4]
theorem fn107 : FnX Tryz.prog 107 EFF 26 x107 r107 := ⟨_, Tryz.func107, by kernel_rfl, by kernel_rfl, by kernel_rfl, by kernel_rfl⟩
-- almshouse/foreign.Owners (2 parameters)
def x108 : XC := (.seq (.tree (.seq ⟨some 3, none, (.box (.tmp 1))⟩
  (.seq ⟨some 4, none, (.ofA (.mv (.cst (.v (.slice none 0 0)))))⟩
  .done)))
 (.seq (.tree (.seq ⟨some 5, none, (.alloc [(.v (.slice none 0 0))])⟩
  .done))
 (.seq (.tree (.seq ⟨some 6, none, (.ofA (.mv (.tmp 0)))⟩
  (.seq ⟨some 7, none, (.ofA (.mkfn 160 [(.tmp 3), (.tmp 5)]))⟩
  (.seq ⟨some 8, none, (.call (.cst (.fn 159 [])) [(.tmp 6), (.tmp 7)])⟩
  .done))))
 (.seq (.tree (.seq ⟨some 9, none, (.ofA (.load none (.tmp 5)))⟩
  (.seq ⟨some 4, none, (.ofA (.mv (.tmp 9)))⟩
  .done)))
 .ret))))
def r108 : List XR := [.tmp 4]
theorem fn108 : FnX Tryz.prog 108 EFF 10 x108 r108 := ⟨_, Tryz.func108, by kernel_rfl, by kernel_rfl, by kernel_rfl, by kernel_rfl⟩
-- almshouse/foreign.Stray (1 parameters)
def x109 : XC := (.seq (.tree (.seq ⟨some 2, none, (.ofA (.mv (.cst (.v (.slice none 0 0)))))⟩
  .done))
 (.seq (.tree (.seq ⟨some 10, none, (.ofA (.mv (.tmp 0)))⟩
  (.seq ⟨some 11, none, (.call (.cst (.fn 40 [])) [(.tmp 10)])⟩
  (.seq ⟨some 12, none, (.call (.cst (.fn 54 [])) [(.tmp 11)])⟩
  (.seq ⟨some 3, none, (.alloc [(.v (.int .i64 0)), (.v (.int .i64 0)), (.v (.int .i64 0)), (.v (.int .i64 0))])⟩
  (.seq ⟨none, none, (.store 4 (.tmp 3) (.tmp 12))⟩
  .done))))))
 (.seq (.tree (.seq ⟨some 4, none, (.alloc [(.v (.slice none 0 0))])⟩
  .done))
 (.seq (.tree (.seq ⟨some 13, none, (.ofA (.mv (.tmp 0)))⟩
  (.seq ⟨some 14, none, (.ofA (.mkfn 161 [(.tmp 4), (.tmp 3)]))⟩
  (.seq ⟨some 15, none, (.call (.cst (.fn 159 [])) [(.tmp 13), (.tmp 14)])⟩
  .done))))
 (.seq (.tree (.seq ⟨some 16, none, (.ofA (.load none (.tmp 4)))⟩
  (.seq ⟨some 17, none, (.call (.cst (.fn 133 [])) [(.tmp 16)])⟩
  .done)))
 (.seq (.tree (.seq ⟨some 5, none, (.ofA (.mv (.cst (.v (.slice none 0 0)))))⟩
  .done))
 (.seq (.seq (.tree (.seq ⟨some 18, none, (.ofA (.load none (.tmp 4)))⟩
  (.seq ⟨some 19, none, (.ofA (.len (.tmp 18)))⟩
  (.seq ⟨some 20, none, (.ofA (.mv (.cst (.v (.int .i64 0)))))⟩
  .done))))
 (.block 0 (.loop (.seq (.tree (.seq ⟨some 21, none, (.ofA (.bin .lss (.tmp 20) (.tmp 19)))⟩
  .done))
 (.seq (.cond (.tmp 21)
 .skip
 (.exit 0))
 (.seq (.block 1 (.seq (.tree (.seq ⟨some 22, none, (.ofA (.isl 1 (.tmp 18) (.tmp 20)))⟩
  (.seq ⟨some 23, none, (.ofA (.load none (.tmp 22)))⟩
  (.seq ⟨some 7, none, (.ofA (.mv (.tmp 23)))⟩
  .done))))
 (.seq (.tree (.seq ⟨some 25, none, (.ofA (.load (some 4) (.tmp 3)))⟩
  (.seq ⟨some 26, none, (.ofA (.mv (.tmp 7)))⟩
  (.seq ⟨some 27, none, (.call (.cst (.fn 163 [])) [(.tmp 25), (.tmp 26)])⟩
  (.seq ⟨some 24, none, (.ofA (.mv (.tmp 27)))⟩
  (.seq ⟨some 28, none, (.ofA (.extract 0 (.tmp 24)))⟩
  (.seq ⟨some 29, none, (.ofA (.extract 1 (.tmp 24)))⟩
  (.seq ⟨some 8, none, (.alloc [(.v (.int .i64 0)), (.v (.int .i64 0)), (.v (.int .i64 0)), (.v (.int .i64 0))])⟩
  (.seq ⟨none, none, (.store 4 (.tmp 8) (.tmp 28))⟩
  (.seq ⟨some 9, none, (.ofA (.mv (.tmp 29)))⟩
  .done))))))))))
 (.seq (.tree (.seq ⟨some 30, none, (.ofA (.mv (.tmp 9)))⟩
  (.seq ⟨some 31, none, (.ofA (.bin .eql (.tmp 30) (.cst (.v (.int .i64 0)))))⟩
  .done)))
 (.cond (.tmp 31)
 (.tree (.seq ⟨some 32, none, (.ofA (.mv (.tmp 5)))⟩
  (.seq ⟨some 33, none, (.ofA (.load (some 4) (.tmp 8)))⟩
  (.seq ⟨some 34, none, (.buildSl 4 1 [(.v (.int .i64 0)), (.v (.int .i64 0)), (.v (.int .i64 0)), (.v (.int .i64 0))] [(0, 4, (.tmp 33))])⟩
  (.seq ⟨some 35, none, (.app 4 32 (.tmp 32) (.tmp 34))⟩
  (.seq ⟨some 5, none, (.ofA (.mv (.tmp 35)))⟩
  .done))))))
 .skip)))))
 (.tree (.seq ⟨some 36, none, (.ofA (.bin .add (.tmp 20) (.cst (.v (.int .i64 1)))))⟩
  (.seq ⟨some 20, none, (.ofA (.mv (.tmp 36)))⟩
  .done)))))))))
 (.seq (.tree (.seq ⟨some 37, none, (.ofA (.mv (.tmp 5)))⟩
  (.seq ⟨some 2, none, (.ofA (.mv (.tmp 37)))⟩
  .done)))
 .ret))))))))
def r109 : List XR := [.tmp 2]
theorem fn109 : FnX Tryz.prog 109 EFF 38 x109 r109 := ⟨_, Tryz.func109, by kernel_rfl, by kernel_rfl, by kernel_rfl, by kernel_rfl⟩
-- slices.Clone[[]almshouse/api.Step,almshouse/api.Step] (1 parameters)
def x110 : XC := (.seq (.tree (.seq ⟨some 2, none, (.ofA (.mv (.cst (.v (.slice none 0 0)))))⟩
  .done))
 (.seq (.seq (.tree (.seq ⟨some 3, none, (.ofA (.mv (.tmp 0)))⟩
  (.seq ⟨some 4, none, (.ofA (.eqn false 2 (.tmp 3) (.cst (.v (.slice none 0 0)))))⟩
  .done)))
 (.cond (.tmp 4)
 (.seq (.tree (.seq ⟨some 2, none, (.ofA (.mv (.cst (.v (.slice none 0 0)))))⟩
  .done))
 .ret)
 .skip))
 (.seq (.tree (.seq ⟨some 5, none, (.buildSl 8 0 [] [])⟩
  (.seq ⟨some 6, none, (.ofA (.mv (.tmp 0)))⟩
  (.seq ⟨some 7, none, (.app 8 72 (.tmp 5) (.tmp 6))⟩
  (.seq ⟨some 2, none, (.ofA (.mv (.tmp 7)))⟩
  .done)))))
 .ret)))
def r110 : List XR := [.tmp 2]
theorem fn110 : FnX Tryz.prog 110 EFF 8 x110 r110 := ⟨_, Tryz.func110, by kernel_rfl, by kernel_rfl, by kernel_rfl, by kernel_rfl⟩
-- almshouse/foreign.writes (1 parameters)
def x111 : XC := (.seq (.tree (.seq ⟨some 1, none, (.box (.tmp 0))⟩
  (.seq ⟨some 2, none, (.ofA (.mv (.cst (.v (.bool false)))))⟩
  .done)))
 (.seq (.tree (.seq ⟨some 3, none, (.ofA (.faddr 0 (.tmp 1)))⟩
  (.seq ⟨some 4, none, (.ofA (.load none (.tmp 3)))⟩
  (.seq ⟨some 5, none, (.ofA (.bin .eql (.tmp 4) (.cst (.v (.int .i64 5)))))⟩
  (.seq ⟨some 6, none, (.ofA (.mv (.tmp 5)))⟩
  (.seq ⟨some 7, some (6, true), (.ofA (.faddr 5 (.tmp 1)))⟩
  (.seq ⟨some 8, some (6, true), (.ofA (.faddr 0 (.tmp 7)))⟩
  (.seq ⟨some 9, some (6, true), (.ofA (.load none (.tmp 8)))⟩
  (.seq ⟨some 10, some (6, true), (.ofA (.bin .eql (.tmp 9) (.cst (.v (.int .i64 2)))))⟩
  (.seq ⟨some 11, none, (.ofA (.pick (.tmp 6) (.tmp 10) (.cst (.v (.bool false)))))⟩
  (.seq ⟨some 12, none, (.ofA (.mv (.tmp 11)))⟩
  (.seq ⟨some 13, some (12, true), (.ofA (.faddr 5 (.tmp 1)))⟩
  (.seq ⟨some 14, some (12, true), (.ofA (.faddr 2 (.tmp 13)))⟩
  (.seq ⟨some 15, some (12, true), (.ofA (.load none (.tmp 14)))⟩
  (.seq ⟨some 16, some (12, true), (.ofA (.bin .neq (.tmp 15) (.cst (.v (.string ⟨#[]⟩)))))⟩
  (.seq ⟨some 17, none, (.ofA (.pick (.tmp 12) (.tmp 16) (.cst (.v (.bool false)))))⟩
  (.seq ⟨some 2, none, (.ofA (.mv (.tmp 17)))⟩
  .done)))))))))))))))))
 .ret))
def r111 : List XR := [.tmp 2]
theorem fn111 : FnX Tryz.prog 111 EFF 18 x111 r111 := ⟨_, Tryz.func111, by kernel_rfl, by kernel_rfl, by kernel_rfl, by kernel_rfl⟩
-- slices.ContainsFunc[[]almshouse/api.Step,almshouse/api.Step] (2 parameters)
def x112 : XC := (.seq (.tree (.seq ⟨some 4, none, (.ofA (.mv (.cst (.v (.bool false)))))⟩
  .done))
 (.seq (.tree (.seq ⟨some 5, none, (.ofA (.mv (.tmp 0)))⟩
  (.seq ⟨some 6, none, (.ofA (.mv (.tmp 1)))⟩
  (.seq ⟨some 7, none, (.call (.cst (.fn 164 [])) [(.tmp 5), (.tmp 6)])⟩
  (.seq ⟨some 8, none, (.ofA (.bin .geq (.tmp 7) (.cst (.v (.int .i64 0)))))⟩
  (.seq ⟨some 4, none, (.ofA (.mv (.tmp 8)))⟩
  .done))))))
 .ret))
def r112 : List XR := [.tmp 4]
theorem fn112 : FnX Tryz.prog 112 EFF 9 x112 r112 := ⟨_, Tryz.func112, by kernel_rfl, by kernel_rfl, by kernel_rfl, by kernel_rfl⟩
-- almshouse/foreign.Signed$1 (1 parameters)
def x113 : XC := (.seq (.tree (.seq ⟨some 1, none, (.box (.tmp 0))⟩
  (.seq ⟨some 2, none, (.ofA (.mv (.cst (.v (.bool false)))))⟩
  .done)))
 (.seq (.tree (.take ⟨some 3, none, (.ofA (.load (some 8) (.tmp 1)))⟩
  (.act true [(⟨some 4, none, (.call (.cst (.fn 111 [])) [(.tmp 3)])⟩,
 (.take ⟨some 5, none, (.ofA (.mv (.tmp 4)))⟩
  (.take ⟨some 6, some (5, true), (.ofA (.faddr 5 (.tmp 1)))⟩
  (.take ⟨some 7, some (5, true), (.ofA (.faddr 2 (.tmp 6)))⟩
  (.take ⟨some 8, some (5, true), (.ofA (.load none (.tmp 7)))⟩
  (.take ⟨some 9, some (5, true), (.ofA (.sidx (.tmp 8) (.cst (.v (.int .i64 0)))))⟩
  (.take ⟨some 10, some (5, true), (.ofA (.conv .i64 (.tmp 9)))⟩
  (.take ⟨some 11, some (5, true), (.ofA (.bin .sub (.tmp 10) (.cst (.v (.int .i64 65)))))⟩
  (.take ⟨some 12, some (5, true), (.ofA (.faddr 1 (.tmp 1)))⟩
  (.take ⟨some 13, some (5, true), (.ofA (.load none (.tmp 12)))⟩
  (.take ⟨some 14, some (5, true), (.ofA (.bin .neq (.tmp 11) (.tmp 13)))⟩
  (.take ⟨some 15, none, (.ofA (.pick (.tmp 5) (.tmp 14) (.cst (.v (.bool false)))))⟩
  (.take ⟨some 2, none, (.ofA (.mv (.tmp 15)))⟩
  .done)))))))))))))])))
 .ret))
def r113 : List XR := [.tmp 2]
theorem fn113 : FnX Tryz.prog 113 EFF 16 x113 r113 := ⟨_, Tryz.func113, by kernel_rfl, by kernel_rfl, by kernel_rfl, by kernel_rfl⟩
-- almshouse/power.New (1 parameters)
def x114 : XC := (.seq (.tree (.seq ⟨some 2, none, (.ofA (.mv (.cst (.v (.pointer none)))))⟩
  .done))
 (.seq (.tree (.seq ⟨some 4, none, (.build [(.v (.int .i64 0)), (.v (.int .u32 0)), (.v (.int .i64 0))] [])⟩
  (.seq ⟨some 5, none, (.box (.tmp 4))⟩
  (.seq ⟨some 3, none, (.ofA (.mv (.tmp 5)))⟩
  .done))))
 (.seq (.tree (.seq ⟨some 6, none, (.ofA (.mv (.tmp 3)))⟩
  (.seq ⟨some 7, none, (.ofA (.nilc (.tmp 6)))⟩
  (.seq ⟨some 8, none, (.ofA (.faddr 0 (.tmp 7)))⟩
  (.seq ⟨some 9, none, (.ofA (.mv (.tmp 0)))⟩
  (.seq ⟨some 10, none, (.call (.cst (.fn 138 [])) [(.tmp 8), (.tmp 9)])⟩
  .done))))))
 (.seq (.tree (.seq ⟨some 11, none, (.ofA (.mv (.tmp 3)))⟩
  (.seq ⟨some 2, none, (.ofA (.mv (.tmp 11)))⟩
  .done)))
 .ret))))
def r114 : List XR := [.tmp 2]
theorem fn114 : FnX Tryz.prog 114 EFF 12 x114 r114 := ⟨_, Tryz.func114, by kernel_rfl, by kernel_rfl, by kernel_rfl, by kernel_rfl⟩
-- almshouse/draws.New (1 parameters)
def x116 : XC := (.seq (.tree (.seq ⟨some 1, none, (.box (.tmp 0))⟩
  (.seq ⟨some 2, none, (.ofA (.mv (.cst (.v (.pointer none)))))⟩
  (.seq ⟨some 3, none, (.ofA (.mv (.cst (.v (.int .i64 0)))))⟩
  .done))))
 (.seq (.seq (.tree (.seq ⟨some 9, none, (.ofA (.load (some 4) (.tmp 1)))⟩
  (.seq ⟨some 10, none, (.ofA (.mv (.cst (.v (.int .i64 0)))))⟩
  .done)))
 (.block 0 (.loop (.seq (.tree (.seq ⟨some 11, none, (.ofA (.bin .lss (.tmp 10) (.cst (.v (.int .i64 4)))))⟩
  .done))
 (.seq (.cond (.tmp 11)
 .skip
 (.exit 0))
 (.seq (.block 1 (.seq (.tree (.seq ⟨some 12, none, (.ofA (.idx 4 1 false (.tmp 9) (.tmp 10)))⟩
  (.seq ⟨some 5, none, (.ofA (.mv (.tmp 12)))⟩
  .done)))
 (.seq (.tree (.seq ⟨some 13, none, (.ofA (.mv (.tmp 5)))⟩
  (.seq ⟨some 14, none, (.ofA (.len (.tmp 13)))⟩
  (.seq ⟨some 15, none, (.ofA (.bin .gtr (.tmp 14) (.cst (.v (.int .i64 64)))))⟩
  .done))))
 (.cond (.tmp 15)
 (.seq (.tree (.seq ⟨some 2, none, (.ofA (.mv (.cst (.v (.pointer none)))))⟩
  (.seq ⟨some 3, none, (.ofA (.mv (.cst (.v (.int .i64 4)))))⟩
  .done)))
 .ret)
 .skip))))
 (.tree (.seq ⟨some 16, none, (.ofA (.bin .add (.tmp 10) (.cst (.v (.int .i64 1)))))⟩
  (.seq ⟨some 10, none, (.ofA (.mv (.tmp 16)))⟩
  .done)))))))))
 (.seq (.tree (.seq ⟨some 17, none, (.build [(.v (.slice none 0 0)), (.v (.int .i64 0)), (.v (.int .i64 0)), (.v (.slice none 0 0)), (.v (.int .i64 0)), (.v (.int .i64 0)), (.v (.slice none 0 0)), (.v (.int .i64 0)), (.v (.int .i64 0)), (.v (.slice none 0 0)), (.v (.int .i64 0)), (.v (.int .i64 0))] [])⟩
  (.seq ⟨some 18, none, (.box (.tmp 17))⟩
  (.seq ⟨some 6, none, (.ofA (.mv (.tmp 18)))⟩
  .done))))
 (.seq (.seq (.tree (.seq ⟨some 19, none, (.ofA (.load (some 4) (.tmp 1)))⟩
  (.seq ⟨some 20, none, (.ofA (.mv (.cst (.v (.int .i64 0)))))⟩
  .done)))
 (.block 2 (.loop (.seq (.tree (.seq ⟨some 21, none, (.ofA (.bin .lss (.tmp 20) (.cst (.v (.int .i64 4)))))⟩
  .done))
 (.seq (.cond (.tmp 21)
 .skip
 (.exit 2))
 (.seq (.block 3 (.seq (.tree (.seq ⟨some 22, none, (.ofA (.mv (.tmp 20)))⟩
  (.seq ⟨some 23, none, (.ofA (.idx 4 1 false (.tmp 19) (.tmp 20)))⟩
  (.seq ⟨some 7, none, (.ofA (.mv (.tmp 22)))⟩
  (.seq ⟨some 8, none, (.ofA (.mv (.tmp 23)))⟩
  .done)))))
 (.seq (.seq (.tree (.seq ⟨some 24, none, (.ofA (.mv (.tmp 8)))⟩
  (.seq ⟨some 25, none, (.ofA (.len (.tmp 24)))⟩
  (.seq ⟨some 26, none, (.ofA (.bin .gtr (.tmp 25) (.cst (.v (.int .i64 0)))))⟩
  (.seq ⟨some 27, none, (.ofA (.mv (.tmp 26)))⟩
  (.seq ⟨some 28, some (27, true), (.ofA (.mv (.tmp 8)))⟩
  (.seq ⟨some 29, some (27, true), (.call (.cst (.fn 165 [])) [(.tmp 28)])⟩
  (.seq ⟨some 30, some (27, true), (.ofA (.bin .lss (.tmp 29) (.cst (.v (.int .i64 1)))))⟩
  (.seq ⟨some 31, none, (.ofA (.pick (.tmp 27) (.tmp 30) (.cst (.v (.bool false)))))⟩
  .done)))))))))
 (.cond (.tmp 31)
 (.seq (.tree (.seq ⟨some 2, none, (.ofA (.mv (.cst (.v (.pointer none)))))⟩
  (.seq ⟨some 3, none, (.ofA (.mv (.cst (.v (.int .i64 5)))))⟩
  .done)))
 .ret)
 .skip))
 (.tree (.take ⟨some 32, none, (.ofA (.mv (.tmp 6)))⟩
  (.take ⟨some 33, none, (.ofA (.mv (.tmp 7)))⟩
  (.take ⟨some 34, none, (.ofA (.mv (.tmp 8)))⟩
  (.take ⟨some 36, none, (.ofA (.nilc (.tmp 32)))⟩
  (.take ⟨some 37, none, (.ofA (.faddr 0 (.tmp 36)))⟩
  (.alt [true] [(⟨some 35, none, (.call (.cst (.fn 55 [])) [(.tmp 34)])⟩,
 (.take ⟨some 38, none, (.ofA (.iarr 4 3 (.tmp 37) (.tmp 33)))⟩
  (.take ⟨some 39, none, (.ofA (.faddr 0 (.tmp 38)))⟩
  (.alt [false] [(⟨none, none, (.store 1 (.tmp 39) (.tmp 35))⟩,
 .done)]))))]))))))))))
 (.tree (.seq ⟨some 40, none, (.ofA (.bin .add (.tmp 20) (.cst (.v (.int .i64 1)))))⟩
  (.seq ⟨some 20, none, (.ofA (.mv (.tmp 40)))⟩
  .done)))))))))
 (.seq (.tree (.seq ⟨some 41, none, (.ofA (.mv (.tmp 6)))⟩
  (.seq ⟨some 2, none, (.ofA (.mv (.tmp 41)))⟩
  (.seq ⟨some 3, none, (.ofA (.mv (.cst (.v (.int .i64 0)))))⟩
  .done))))
 .ret)))))
def r116 : List XR := [.tmp 2, .tmp 3]
theorem fn116 : FnX Tryz.prog 116 EFF 42 x116 r116 := ⟨_, Tryz.func116, by kernel_rfl, by kernel_rfl, by kernel_rfl, by kernel_rfl⟩
-- almshouse/nand.New (4 parameters)
def x117 : XC := (.seq (.tree (.seq ⟨some 4, none, (.box (.tmp 0))⟩
  (.seq ⟨some 8, none, (.ofA (.mv (.cst (.v (.pointer none)))))⟩
  (.seq ⟨some 9, none, (.ofA (.mv (.cst (.v (.int .i64 0)))))⟩
  .done))))
 (.seq (.seq (.tree (.seq ⟨some 15, none, (.ofA (.load (some 4) (.tmp 4)))⟩
  (.seq ⟨some 16, none, (.call (.cst (.fn 166 [])) [(.tmp 15)])⟩
  (.seq ⟨some 10, none, (.ofA (.mv (.tmp 16)))⟩
  .done))))
 (.seq (.tree (.seq ⟨some 17, none, (.ofA (.mv (.tmp 10)))⟩
  (.seq ⟨some 18, none, (.ofA (.bin .neq (.tmp 17) (.cst (.v (.int .i64 0)))))⟩
  .done)))
 (.cond (.tmp 18)
 (.seq (.tree (.seq ⟨some 19, none, (.ofA (.mv (.tmp 10)))⟩
  (.seq ⟨some 8, none, (.ofA (.mv (.cst (.v (.pointer none)))))⟩
  (.seq ⟨some 9, none, (.ofA (.mv (.tmp 19)))⟩
  .done))))
 .ret)
 .skip)))
 (.seq (.seq (.tree (.seq ⟨some 20, none, (.ofA (.mv (.tmp 1)))⟩
  (.seq ⟨some 21, none, (.ofA (.eqn false 1 (.tmp 20) (.cst (.v (.pointer none)))))⟩
  (.seq ⟨some 22, none, (.ofA (.mv (.tmp 21)))⟩
  (.seq ⟨some 23, some (22, false), (.ofA (.mv (.tmp 2)))⟩
  (.seq ⟨some 24, some (22, false), (.ofA (.eqn false 1 (.tmp 23) (.cst (.v (.pointer none)))))⟩
  (.seq ⟨some 25, none, (.ofA (.pick (.tmp 22) (.cst (.v (.bool true))) (.tmp 24)))⟩
  .done)))))))
 (.cond (.tmp 25)
 (.seq (.tree (.seq ⟨some 8, none, (.ofA (.mv (.cst (.v (.pointer none)))))⟩
  (.seq ⟨some 9, none, (.ofA (.mv (.cst (.v (.int .i64 1)))))⟩
  .done)))
 .ret)
 .skip))
 (.seq (.tree (.take ⟨some 26, none, (.ofA (.load (some 4) (.tmp 4)))⟩
  (.take ⟨some 27, none, (.ofA (.mv (.tmp 1)))⟩
  (.take ⟨some 28, none, (.ofA (.mv (.tmp 2)))⟩
  (.take ⟨some 29, none, (.ofA (.load (some 4) (.tmp 4)))⟩
  (.act true [(⟨some 30, none, (.call (.cst (.fn 167 [])) [(.tmp 29)])⟩,
 (.act true [(⟨some 31, none, (.mkSl 4 48 [(.v (.slice none 0 0)), (.v (.int .i64 0)), (.v (.bool false)), (.v (.int .i64 0))] (.tmp 30) (.tmp 30))⟩,
 (.act true [(⟨some 32, none, (.build [(.v (.int .i64 0)), (.v (.int .i64 0)), (.v (.int .i64 0)), (.v (.int .i64 0)), (.v (.pointer none)), (.v (.pointer none)), (.v (.slice none 0 0))] [(0, 4, (.tmp 26)), (4, 1, (.tmp 27)), (5, 1, (.tmp 28)), (6, 1, (.tmp 31))])⟩,
 (.act true [(⟨some 33, none, (.box (.tmp 32))⟩,
 (.take ⟨some 11, none, (.ofA (.mv (.tmp 33)))⟩
  .done))]))]))]))]))))))
 (.seq (.seq (.tree (.seq ⟨some 34, none, (.ofA (.mv (.tmp 11)))⟩
  (.seq ⟨some 35, none, (.ofA (.nilc (.tmp 34)))⟩
  (.seq ⟨some 36, none, (.ofA (.faddr 6 (.tmp 35)))⟩
  (.seq ⟨some 37, none, (.ofA (.load none (.tmp 36)))⟩
  (.seq ⟨some 38, none, (.ofA (.len (.tmp 37)))⟩
  (.seq ⟨some 39, none, (.ofA (.mv (.cst (.v (.int .i64 0)))))⟩
  .done)))))))
 (.block 0 (.loop (.seq (.tree (.seq ⟨some 40, none, (.ofA (.bin .lss (.tmp 39) (.tmp 38)))⟩
  .done))
 (.seq (.cond (.tmp 40)
 .skip
 (.exit 0))
 (.seq (.block 1 (.seq (.tree (.seq ⟨some 41, none, (.ofA (.mv (.tmp 39)))⟩
  (.seq ⟨some 12, none, (.ofA (.mv (.tmp 41)))⟩
  .done)))
 (.tree (.take ⟨some 42, none, (.ofA (.mv (.tmp 11)))⟩
  (.take ⟨some 43, none, (.ofA (.nilc (.tmp 42)))⟩
  (.take ⟨some 44, none, (.ofA (.faddr 6 (.tmp 43)))⟩
  (.take ⟨some 45, none, (.ofA (.load none (.tmp 44)))⟩
  (.take ⟨some 46, none, (.ofA (.mv (.tmp 12)))⟩
  (.take ⟨some 47, none, (.ofA (.faddr 3 (.tmp 4)))⟩
  (.take ⟨some 48, none, (.ofA (.load none (.tmp 47)))⟩
  (.alt [true] [(⟨some 49, none, (.mkSl 3 48 [(.v (.int .i64 0)), (.v (.slice none 0 0)), (.v (.string ⟨#[]⟩))] (.tmp 48) (.tmp 48))⟩,
 (.take ⟨some 50, none, (.ofA (.isl 4 (.tmp 45) (.tmp 46)))⟩
  (.take ⟨some 51, none, (.ofA (.faddr 0 (.tmp 50)))⟩
  (.alt [false] [(⟨none, none, (.store 1 (.tmp 51) (.tmp 49))⟩,
 .done)]))))])))))))))))
 (.tree (.seq ⟨some 52, none, (.ofA (.bin .add (.tmp 39) (.cst (.v (.int .i64 1)))))⟩
  (.seq ⟨some 39, none, (.ofA (.mv (.tmp 52)))⟩
  .done)))))))))
 (.seq (.seq (.tree (.seq ⟨some 53, none, (.ofA (.mv (.tmp 3)))⟩
  (.seq ⟨some 54, none, (.ofA (.len (.tmp 53)))⟩
  (.seq ⟨some 55, none, (.ofA (.mv (.cst (.v (.int .i64 0)))))⟩
  .done))))
 (.block 2 (.loop (.seq (.tree (.seq ⟨some 56, none, (.ofA (.bin .lss (.tmp 55) (.tmp 54)))⟩
  .done))
 (.seq (.cond (.tmp 56)
 .skip
 (.exit 2))
 (.seq (.block 3 (.seq (.tree (.seq ⟨some 57, none, (.ofA (.isl 1 (.tmp 53) (.tmp 55)))⟩
  (.seq ⟨some 58, none, (.ofA (.load none (.tmp 57)))⟩
  (.seq ⟨some 14, none, (.ofA (.mv (.tmp 58)))⟩
  .done))))
 (.seq (.seq (.tree (.seq ⟨some 59, none, (.ofA (.mv (.tmp 14)))⟩
  (.seq ⟨some 60, none, (.ofA (.bin .lss (.tmp 59) (.cst (.v (.int .i64 2)))))⟩
  (.seq ⟨some 61, none, (.ofA (.mv (.tmp 60)))⟩
  (.seq ⟨some 62, some (61, false), (.ofA (.mv (.tmp 14)))⟩
  (.seq ⟨some 63, some (61, false), (.ofA (.mv (.tmp 11)))⟩
  (.seq ⟨some 64, some (61, false), (.ofA (.nilc (.tmp 63)))⟩
  (.seq ⟨some 65, some (61, false), (.ofA (.faddr 6 (.tmp 64)))⟩
  (.seq ⟨some 66, some (61, false), (.ofA (.load none (.tmp 65)))⟩
  (.seq ⟨some 67, some (61, false), (.ofA (.len (.tmp 66)))⟩
  (.seq ⟨some 68, some (61, false), (.ofA (.bin .geq (.tmp 62) (.tmp 67)))⟩
  (.seq ⟨some 69, none, (.ofA (.pick (.tmp 61) (.cst (.v (.bool true))) (.tmp 68)))⟩
  .done))))))))))))
 (.cond (.tmp 69)
 (.seq (.tree (.seq ⟨some 8, none, (.ofA (.mv (.cst (.v (.pointer none)))))⟩
  (.seq ⟨some 9, none, (.ofA (.mv (.cst (.v (.int .i64 5)))))⟩
  .done)))
 .ret)
 .skip))
 (.tree (.seq ⟨some 70, none, (.ofA (.mv (.tmp 11)))⟩
  (.seq ⟨some 71, none, (.ofA (.nilc (.tmp 70)))⟩
  (.seq ⟨some 72, none, (.ofA (.faddr 6 (.tmp 71)))⟩
  (.seq ⟨some 73, none, (.ofA (.load none (.tmp 72)))⟩
  (.seq ⟨some 74, none, (.ofA (.mv (.tmp 14)))⟩
  (.seq ⟨some 75, none, (.ofA (.isl 4 (.tmp 73) (.tmp 74)))⟩
  (.seq ⟨some 76, none, (.ofA (.faddr 2 (.tmp 75)))⟩
  (.seq ⟨none, none, (.store 1 (.tmp 76) (.cst (.v (.bool true))))⟩
  .done))))))))))))
 (.tree (.seq ⟨some 77, none, (.ofA (.bin .add (.tmp 55) (.cst (.v (.int .i64 1)))))⟩
  (.seq ⟨some 55, none, (.ofA (.mv (.tmp 77)))⟩
  .done)))))))))
 (.seq (.tree (.seq ⟨some 78, none, (.ofA (.mv (.tmp 11)))⟩
  (.seq ⟨some 8, none, (.ofA (.mv (.tmp 78)))⟩
  (.seq ⟨some 9, none, (.ofA (.mv (.cst (.v (.int .i64 0)))))⟩
  .done))))
 .ret)))))))
def r117 : List XR := [.tmp 8, .tmp 9]
theorem fn117 : FnX Tryz.prog 117 EFF 79 x117 r117 := ⟨_, Tryz.func117, by kernel_rfl, by kernel_rfl, by kernel_rfl, by kernel_rfl⟩
end Go.Proofs.YtdbjkklhgfhgnaaGreat
