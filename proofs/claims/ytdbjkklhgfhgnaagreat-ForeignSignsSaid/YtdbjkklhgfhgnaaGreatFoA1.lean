/- Layer 45 (foreign): the law's own document, reckoned by the kernel. -/
import Derived.Test.YtdbjkklhgfhgnaaGreatFoA0
import Derived.Test.YtdbjkklhgfhgnaaGreatSzP
namespace Go.Proofs.YtdbjkklhgfhgnaaGreat
open Go.RowKit Sz
set_option linter.unusedVariables false
set_option linter.unusedSimpArgs false
set_option maxHeartbeats 4000000
set_option maxRecDepth 20000
-- (*almshouse/buffer.Buffer).at (2 parameters)
def x118 : XC := (.seq (.tree (.seq ⟨some 4, none, (.ofA (.mv (.cst (.v (.pointer none)))))⟩
  .done))
 (.seq (.tree (.take ⟨some 5, none, (.ofA (.mv (.tmp 0)))⟩
  (.take ⟨some 6, none, (.ofA (.mv (.tmp 0)))⟩
  (.take ⟨some 7, none, (.ofA (.nilc (.tmp 6)))⟩
  (.take ⟨some 8, none, (.ofA (.faddr 12 (.tmp 7)))⟩
  (.take ⟨some 9, none, (.ofA (.load none (.tmp 8)))⟩
  (.take ⟨some 10, none, (.ofA (.mv (.tmp 1)))⟩
  (.take ⟨some 11, none, (.ofA (.bin .add (.tmp 9) (.tmp 10)))⟩
  (.take ⟨some 12, none, (.ofA (.bin .rem (.tmp 11) (.cst (.v (.int .i64 4)))))⟩
  (.take ⟨some 13, none, (.ofA (.nilc (.tmp 5)))⟩
  (.take ⟨some 14, none, (.ofA (.faddr 0 (.tmp 13)))⟩
  (.take ⟨some 15, none, (.ofA (.iarr 4 3 (.tmp 14) (.tmp 12)))⟩
  (.take ⟨some 4, none, (.ofA (.mv (.tmp 15)))⟩
  .done)))))))))))))
 .ret))
def r118 : List XR := [.tmp 4]
theorem fn118 : FnX Tryz.prog 118 EFF 16 x118 r118 := ⟨_, Tryz.func118, by kernel_rfl, by kernel_rfl, by kernel_rfl, by kernel_rfl⟩
-- (*almshouse/nand.Nand).Read (3 parameters)
def x119 : XC := (.seq (.tree (.seq ⟨some 6, none, (.ofA (.mv (.cst (.v (.slice none 0 0)))))⟩
  (.seq ⟨some 7, none, (.ofA (.mv (.cst (.v (.string ⟨#[]⟩)))))⟩
  (.seq ⟨some 8, none, (.ofA (.mv (.cst (.v (.int .i64 0)))))⟩
  .done))))
 (.seq (.tree (.seq ⟨some 11, none, (.ofA (.mv (.tmp 0)))⟩
  (.seq ⟨some 12, none, (.ofA (.mv (.tmp 1)))⟩
  (.seq ⟨some 13, none, (.call (.cst (.fn 168 [])) [(.tmp 11), (.tmp 12)])⟩
  (.seq ⟨some 9, none, (.ofA (.mv (.tmp 13)))⟩
  .done)))))
 (.seq (.block 0 (.seq (.tree (.seq ⟨some 15, none, (.ofA (.mv (.tmp 0)))⟩
  (.seq ⟨some 16, none, (.ofA (.eqn false 1 (.tmp 15) (.cst (.v (.pointer none)))))⟩
  (.seq ⟨some 14, none, (.ofA (.mv (.tmp 16)))⟩
  .done))))
 (.cond (.tmp 14)
 (.seq (.tree (.seq ⟨some 6, none, (.ofA (.mv (.cst (.v (.slice none 0 0)))))⟩
  (.seq ⟨some 7, none, (.ofA (.mv (.cst (.v (.string ⟨#[]⟩)))))⟩
  (.seq ⟨some 8, none, (.ofA (.mv (.cst (.v (.int .i64 1)))))⟩
  .done))))
 .ret)
 (.seq (.tree (.seq ⟨some 18, none, (.ofA (.mv (.tmp 9)))⟩
  (.seq ⟨some 19, none, (.ofA (.eqn false 1 (.tmp 18) (.cst (.v (.pointer none)))))⟩
  (.seq ⟨some 20, none, (.ofA (.mv (.tmp 19)))⟩
  (.seq ⟨some 21, some (20, false), (.ofA (.mv (.tmp 2)))⟩
  (.seq ⟨some 22, some (20, false), (.ofA (.bin .lss (.tmp 21) (.cst (.v (.int .i64 0)))))⟩
  (.seq ⟨some 23, none, (.ofA (.pick (.tmp 20) (.cst (.v (.bool true))) (.tmp 22)))⟩
  (.seq ⟨some 24, none, (.ofA (.mv (.tmp 23)))⟩
  (.seq ⟨some 25, some (24, false), (.ofA (.mv (.tmp 2)))⟩
  (.seq ⟨some 26, some (24, false), (.ofA (.mv (.tmp 9)))⟩
  (.seq ⟨some 27, some (24, false), (.ofA (.nilc (.tmp 26)))⟩
  (.seq ⟨some 28, some (24, false), (.ofA (.faddr 0 (.tmp 27)))⟩
  (.seq ⟨some 29, some (24, false), (.ofA (.load none (.tmp 28)))⟩
  (.seq ⟨some 30, some (24, false), (.ofA (.len (.tmp 29)))⟩
  (.seq ⟨some 31, some (24, false), (.ofA (.bin .geq (.tmp 25) (.tmp 30)))⟩
  (.seq ⟨some 32, none, (.ofA (.pick (.tmp 24) (.cst (.v (.bool true))) (.tmp 31)))⟩
  (.seq ⟨some 17, none, (.ofA (.mv (.tmp 32)))⟩
  .done)))))))))))))))))
 (.cond (.tmp 17)
 (.seq (.tree (.seq ⟨some 6, none, (.ofA (.mv (.cst (.v (.slice none 0 0)))))⟩
  (.seq ⟨some 7, none, (.ofA (.mv (.cst (.v (.string ⟨#[]⟩)))))⟩
  (.seq ⟨some 8, none, (.ofA (.mv (.cst (.v (.int .i64 5)))))⟩
  .done))))
 .ret)
 (.seq (.tree (.seq ⟨some 34, none, (.ofA (.mv (.tmp 0)))⟩
  (.seq ⟨some 35, none, (.ofA (.nilc (.tmp 34)))⟩
  (.seq ⟨some 36, none, (.ofA (.faddr 4 (.tmp 35)))⟩
  (.seq ⟨some 37, none, (.ofA (.load none (.tmp 36)))⟩
  (.seq ⟨some 38, none, (.call (.cst (.fn 99 [])) [(.tmp 37)])⟩
  (.seq ⟨some 33, none, (.ofA (.mv (.tmp 38)))⟩
  .done)))))))
 (.cond (.tmp 33)
 (.seq (.tree (.seq ⟨some 6, none, (.ofA (.mv (.cst (.v (.slice none 0 0)))))⟩
  (.seq ⟨some 7, none, (.ofA (.mv (.cst (.v (.string ⟨#[]⟩)))))⟩
  (.seq ⟨some 8, none, (.ofA (.mv (.cst (.v (.int .i64 12)))))⟩
  .done))))
 .ret)
 .skip)))))))
 (.seq (.seq (.tree (.seq ⟨some 39, none, (.ofA (.mv (.tmp 9)))⟩
  (.seq ⟨some 40, none, (.ofA (.nilc (.tmp 39)))⟩
  (.seq ⟨some 41, none, (.ofA (.faddr 0 (.tmp 40)))⟩
  (.seq ⟨some 42, none, (.ofA (.load none (.tmp 41)))⟩
  (.seq ⟨some 43, none, (.ofA (.mv (.tmp 2)))⟩
  (.seq ⟨some 44, none, (.ofA (.isl 3 (.tmp 42) (.tmp 43)))⟩
  (.seq ⟨some 45, none, (.ofA (.load (some 3) (.tmp 44)))⟩
  (.seq ⟨some 10, none, (.alloc [(.v (.int .i64 0)), (.v (.slice none 0 0)), (.v (.string ⟨#[]⟩))])⟩
  (.seq ⟨none, none, (.store 3 (.tmp 10) (.tmp 45))⟩
  .done))))))))))
 (.seq (.tree (.seq ⟨some 46, none, (.ofA (.faddr 0 (.tmp 10)))⟩
  (.seq ⟨some 47, none, (.ofA (.load none (.tmp 46)))⟩
  .done)))
 (.block 1 (.seq (.tree (.seq ⟨some 49, none, (.ofA (.bin .eql (.tmp 47) (.cst (.v (.int .i64 1)))))⟩
  (.seq ⟨some 48, none, (.ofA (.mv (.tmp 49)))⟩
  .done)))
 (.cond (.tmp 48)
 (.seq (.tree (.take ⟨some 50, none, (.ofA (.faddr 1 (.tmp 10)))⟩
  (.take ⟨some 51, none, (.ofA (.load none (.tmp 50)))⟩
  (.take ⟨some 53, none, (.ofA (.faddr 2 (.tmp 10)))⟩
  (.take ⟨some 54, none, (.ofA (.load none (.tmp 53)))⟩
  (.act true [(⟨some 52, none, (.call (.cst (.fn 169 [])) [(.tmp 51)])⟩,
 (.take ⟨some 6, none, (.ofA (.mv (.tmp 52)))⟩
  (.take ⟨some 7, none, (.ofA (.mv (.tmp 54)))⟩
  (.take ⟨some 8, none, (.ofA (.mv (.cst (.v (.int .i64 0)))))⟩
  .done))))]))))))
 .ret)
 (.seq (.tree (.seq ⟨some 56, none, (.ofA (.bin .eql (.tmp 47) (.cst (.v (.int .i64 2)))))⟩
  (.seq ⟨some 55, none, (.ofA (.mv (.tmp 56)))⟩
  .done)))
 (.cond (.tmp 55)
 (.seq (.tree (.seq ⟨some 6, none, (.ofA (.mv (.cst (.v (.slice none 0 0)))))⟩
  (.seq ⟨some 7, none, (.ofA (.mv (.cst (.v (.string ⟨#[]⟩)))))⟩
  (.seq ⟨some 8, none, (.ofA (.mv (.cst (.v (.int .i64 11)))))⟩
  .done))))
 .ret)
 .skip)))))))
 (.seq (.tree (.seq ⟨some 6, none, (.ofA (.mv (.cst (.v (.slice none 0 0)))))⟩
  (.seq ⟨some 7, none, (.ofA (.mv (.cst (.v (.string ⟨#[]⟩)))))⟩
  (.seq ⟨some 8, none, (.ofA (.mv (.cst (.v (.int .i64 6)))))⟩
  .done))))
 .ret)))))
def r119 : List XR := [.tmp 6, .tmp 7, .tmp 8]
theorem fn119 : FnX Tryz.prog 119 EFF 57 x119 r119 := ⟨_, Tryz.func119, by kernel_rfl, by kernel_rfl, by kernel_rfl, by kernel_rfl⟩
-- almshouse/tag.Parse (1 parameters)
def x120 : XC := (.seq (.tree (.seq ⟨some 2, none, (.alloc [(.v (.int .i64 0)), (.v (.int .i64 0)), (.v (.int .i64 0)), (.v (.int .i64 0)), (.v (.int .i64 0)), (.v (.bool false))])⟩
  (.seq ⟨some 3, none, (.ofA (.mv (.cst (.v (.int .i64 0)))))⟩
  .done)))
 (.seq (.tree (.seq ⟨some 9, none, (.ofA (.mv (.tmp 0)))⟩
  (.seq ⟨some 10, none, (.call (.cst (.fn 170 [])) [(.tmp 9), (.cst (.v (.int .i64 84)))])⟩
  (.seq ⟨some 8, none, (.ofA (.mv (.tmp 10)))⟩
  (.seq ⟨some 11, none, (.ofA (.extract 0 (.tmp 8)))⟩
  (.seq ⟨some 12, none, (.ofA (.extract 1 (.tmp 8)))⟩
  (.seq ⟨some 4, none, (.ofA (.mv (.tmp 11)))⟩
  (.seq ⟨some 5, none, (.ofA (.mv (.tmp 12)))⟩
  .done))))))))
 (.seq (.seq (.tree (.seq ⟨some 13, none, (.ofA (.mv (.tmp 5)))⟩
  (.seq ⟨some 14, none, (.ofA (.bin .neq (.tmp 13) (.cst (.v (.int .i64 0)))))⟩
  .done)))
 (.cond (.tmp 14)
 (.seq (.tree (.seq ⟨some 15, none, (.build [(.v (.int .i64 0)), (.v (.int .i64 0)), (.v (.int .i64 0)), (.v (.int .i64 0)), (.v (.int .i64 0)), (.v (.bool false))] [])⟩
  (.seq ⟨some 16, none, (.ofA (.mv (.tmp 5)))⟩
  (.seq ⟨none, none, (.store 6 (.tmp 2) (.tmp 15))⟩
  (.seq ⟨some 3, none, (.ofA (.mv (.tmp 16)))⟩
  .done)))))
 .ret)
 .skip))
 (.seq (.tree (.seq ⟨some 17, none, (.ofA (.mv (.tmp 4)))⟩
  (.seq ⟨some 18, none, (.call (.cst (.fn 171 [])) [(.tmp 17)])⟩
  (.seq ⟨some 6, none, (.ofA (.mv (.tmp 18)))⟩
  .done))))
 (.seq (.tree (.seq ⟨some 7, none, (.alloc [(.v (.int .i64 0)), (.v (.int .i64 0)), (.v (.int .i64 0)), (.v (.int .i64 0)), (.v (.int .i64 0)), (.v (.bool false))])⟩
  .done))
 (.seq (.tree (.seq ⟨some 19, none, (.ofA (.mv (.tmp 6)))⟩
  (.seq ⟨some 20, none, (.call (.cst (.fn 172 [])) [(.tmp 19), (.cst (.v (.int .i64 1)))])⟩
  (.seq ⟨some 21, none, (.ofA (.mv (.tmp 6)))⟩
  (.seq ⟨some 22, none, (.call (.cst (.fn 172 [])) [(.tmp 21), (.cst (.v (.int .i64 4)))])⟩
  (.seq ⟨some 23, none, (.ofA (.faddr 0 (.tmp 7)))⟩
  (.seq ⟨none, none, (.store 1 (.tmp 23) (.tmp 20))⟩
  (.seq ⟨some 24, none, (.ofA (.faddr 1 (.tmp 7)))⟩
  (.seq ⟨none, none, (.store 1 (.tmp 24) (.tmp 22))⟩
  .done)))))))))
 (.seq (.tree (.seq ⟨some 25, none, (.ofA (.mv (.tmp 6)))⟩
  (.seq ⟨some 26, none, (.call (.cst (.fn 172 [])) [(.tmp 25), (.cst (.v (.int .i64 1)))])⟩
  (.seq ⟨some 27, none, (.ofA (.mv (.tmp 6)))⟩
  (.seq ⟨some 28, none, (.call (.cst (.fn 172 [])) [(.tmp 27), (.cst (.v (.int .i64 4)))])⟩
  (.seq ⟨some 29, none, (.ofA (.faddr 2 (.tmp 7)))⟩
  (.seq ⟨none, none, (.store 1 (.tmp 29) (.tmp 26))⟩
  (.seq ⟨some 30, none, (.ofA (.faddr 3 (.tmp 7)))⟩
  (.seq ⟨none, none, (.store 1 (.tmp 30) (.tmp 28))⟩
  .done)))))))))
 (.seq (.tree (.seq ⟨some 31, none, (.ofA (.mv (.tmp 6)))⟩
  (.seq ⟨some 32, none, (.call (.cst (.fn 172 [])) [(.tmp 31), (.cst (.v (.int .i64 1)))])⟩
  (.seq ⟨some 33, none, (.ofA (.mv (.tmp 6)))⟩
  (.seq ⟨some 34, none, (.call (.cst (.fn 173 [])) [(.tmp 33)])⟩
  (.seq ⟨some 35, none, (.ofA (.faddr 4 (.tmp 7)))⟩
  (.seq ⟨none, none, (.store 1 (.tmp 35) (.tmp 32))⟩
  (.seq ⟨some 36, none, (.ofA (.faddr 5 (.tmp 7)))⟩
  (.seq ⟨none, none, (.store 1 (.tmp 36) (.tmp 34))⟩
  .done)))))))))
 (.seq (.seq (.tree (.seq ⟨some 37, none, (.ofA (.mv (.tmp 6)))⟩
  (.seq ⟨some 38, none, (.call (.cst (.fn 174 [])) [(.tmp 37)])⟩
  (.seq ⟨some 39, none, (.ofA (.bin .neq (.tmp 38) (.cst (.v (.int .i64 0)))))⟩
  (.seq ⟨some 40, none, (.ofA (.mv (.tmp 39)))⟩
  (.seq ⟨some 41, some (40, false), (.ofA (.load (some 6) (.tmp 7)))⟩
  (.seq ⟨some 42, some (40, false), (.call (.cst (.fn 175 [])) [(.tmp 41)])⟩
  (.seq ⟨some 43, some (40, false), (.ofA (.un .not (.tmp 42)))⟩
  (.seq ⟨some 44, none, (.ofA (.pick (.tmp 40) (.cst (.v (.bool true))) (.tmp 43)))⟩
  .done)))))))))
 (.cond (.tmp 44)
 (.seq (.tree (.seq ⟨some 45, none, (.build [(.v (.int .i64 0)), (.v (.int .i64 0)), (.v (.int .i64 0)), (.v (.int .i64 0)), (.v (.int .i64 0)), (.v (.bool false))] [])⟩
  (.seq ⟨none, none, (.store 6 (.tmp 2) (.tmp 45))⟩
  (.seq ⟨some 3, none, (.ofA (.mv (.cst (.v (.int .i64 2)))))⟩
  .done))))
 .ret)
 .skip))
 (.seq (.tree (.seq ⟨some 46, none, (.ofA (.load (some 6) (.tmp 7)))⟩
  (.seq ⟨none, none, (.store 6 (.tmp 2) (.tmp 46))⟩
  (.seq ⟨some 3, none, (.ofA (.mv (.cst (.v (.int .i64 0)))))⟩
  .done))))
 .ret))))))))))
def r120 : List XR := [.cell 2 (some 6), .tmp 3]
theorem fn120 : FnX Tryz.prog 120 EFF 47 x120 r120 := ⟨_, Tryz.func120, by kernel_rfl, by kernel_rfl, by kernel_rfl, by kernel_rfl⟩
-- (*almshouse/buffer.Buffer).Full (1 parameters)
def x121 : XC := (.seq (.tree (.seq ⟨some 2, none, (.ofA (.mv (.cst (.v (.bool false)))))⟩
  .done))
 (.seq (.tree (.seq ⟨some 3, none, (.ofA (.mv (.tmp 0)))⟩
  (.seq ⟨some 4, none, (.ofA (.eqn false 1 (.tmp 3) (.cst (.v (.pointer none)))))⟩
  (.seq ⟨some 5, none, (.ofA (.mv (.tmp 4)))⟩
  (.seq ⟨some 6, some (5, false), (.ofA (.mv (.tmp 0)))⟩
  (.seq ⟨some 7, some (5, false), (.ofA (.nilc (.tmp 6)))⟩
  (.seq ⟨some 8, some (5, false), (.ofA (.faddr 13 (.tmp 7)))⟩
  (.seq ⟨some 9, some (5, false), (.ofA (.load none (.tmp 8)))⟩
  (.seq ⟨some 10, some (5, false), (.ofA (.bin .eql (.tmp 9) (.cst (.v (.int .i64 4)))))⟩
  (.seq ⟨some 11, none, (.ofA (.pick (.tmp 5) (.cst (.v (.bool true))) (.tmp 10)))⟩
  (.seq ⟨some 2, none, (.ofA (.mv (.tmp 11)))⟩
  .done)))))))))))
 .ret))
def r121 : List XR := [.tmp 2]
theorem fn121 : FnX Tryz.prog 121 EFF 12 x121 r121 := ⟨_, Tryz.func121, by kernel_rfl, by kernel_rfl, by kernel_rfl, by kernel_rfl⟩
-- (*almshouse/buffer.Buffer).Put (2 parameters)
def x122 : XC := (.seq (.tree (.seq ⟨some 3, none, (.box (.tmp 1))⟩
  (.seq ⟨some 4, none, (.ofA (.mv (.cst (.v (.int .i64 0)))))⟩
  .done)))
 (.seq (.seq (.tree (.seq ⟨some 6, none, (.ofA (.mv (.tmp 0)))⟩
  (.seq ⟨some 7, none, (.ofA (.eqn false 1 (.tmp 6) (.cst (.v (.pointer none)))))⟩
  .done)))
 (.cond (.tmp 7)
 (.seq (.tree (.seq ⟨some 4, none, (.ofA (.mv (.cst (.v (.int .i64 1)))))⟩
  .done))
 .ret)
 .skip))
 (.seq (.seq (.tree (.seq ⟨some 8, none, (.ofA (.load (some 3) (.tmp 3)))⟩
  (.seq ⟨some 9, none, (.call (.cst (.fn 176 [])) [(.tmp 8)])⟩
  (.seq ⟨some 5, none, (.ofA (.mv (.tmp 9)))⟩
  .done))))
 (.seq (.tree (.seq ⟨some 10, none, (.ofA (.mv (.tmp 5)))⟩
  (.seq ⟨some 11, none, (.ofA (.bin .neq (.tmp 10) (.cst (.v (.int .i64 0)))))⟩
  .done)))
 (.cond (.tmp 11)
 (.seq (.tree (.seq ⟨some 12, none, (.ofA (.mv (.tmp 5)))⟩
  (.seq ⟨some 4, none, (.ofA (.mv (.tmp 12)))⟩
  .done)))
 .ret)
 .skip)))
 (.seq (.seq (.tree (.seq ⟨some 13, none, (.ofA (.mv (.tmp 0)))⟩
  (.seq ⟨some 14, none, (.call (.cst (.fn 121 [])) [(.tmp 13)])⟩
  .done)))
 (.cond (.tmp 14)
 (.seq (.tree (.seq ⟨some 4, none, (.ofA (.mv (.cst (.v (.int .i64 8)))))⟩
  .done))
 .ret)
 .skip))
 (.seq (.tree (.take ⟨some 15, none, (.ofA (.mv (.tmp 0)))⟩
  (.take ⟨some 16, none, (.ofA (.mv (.tmp 0)))⟩
  (.take ⟨some 17, none, (.ofA (.nilc (.tmp 16)))⟩
  (.take ⟨some 18, none, (.ofA (.faddr 13 (.tmp 17)))⟩
  (.take ⟨some 19, none, (.ofA (.load none (.tmp 18)))⟩
  (.take ⟨some 21, none, (.ofA (.load (some 3) (.tmp 3)))⟩
  (.alt [true] [(⟨some 20, none, (.call (.cst (.fn 118 [])) [(.tmp 15), (.tmp 19)])⟩,
 (.take ⟨some 22, none, (.ofA (.nilc (.tmp 20)))⟩
  (.alt [false] [(⟨none, none, (.store 3 (.tmp 22) (.tmp 21))⟩,
 .done)])))]))))))))
 (.seq (.tree (.seq ⟨some 23, none, (.ofA (.mv (.tmp 0)))⟩
  (.seq ⟨some 24, none, (.ofA (.nilc (.tmp 23)))⟩
  (.seq ⟨some 25, none, (.ofA (.faddr 13 (.tmp 24)))⟩
  (.seq ⟨some 26, none, (.ofA (.load none (.tmp 25)))⟩
  (.seq ⟨some 27, none, (.ofA (.bin .add (.tmp 26) (.cst (.v (.int .i64 1)))))⟩
  (.seq ⟨some 28, none, (.ofA (.nilc (.tmp 23)))⟩
  (.seq ⟨some 29, none, (.ofA (.faddr 13 (.tmp 28)))⟩
  (.seq ⟨none, none, (.store 1 (.tmp 29) (.tmp 27))⟩
  .done)))))))))
 (.seq (.tree (.seq ⟨some 4, none, (.ofA (.mv (.cst (.v (.int .i64 0)))))⟩
  .done))
 .ret)))))))
def r122 : List XR := [.tmp 4]
theorem fn122 : FnX Tryz.prog 122 EFF 30 x122 r122 := ⟨_, Tryz.func122, by kernel_rfl, by kernel_rfl, by kernel_rfl, by kernel_rfl⟩
-- (*almshouse/buffer.Buffer).First (1 parameters)
def x123 : XC := (.seq (.tree (.seq ⟨some 2, none, (.alloc [(.v (.int .i64 0)), (.v (.int .i64 0)), (.v (.string ⟨#[]⟩))])⟩
  (.seq ⟨some 3, none, (.ofA (.mv (.cst (.v (.bool false)))))⟩
  .done)))
 (.seq (.seq (.tree (.seq ⟨some 4, none, (.ofA (.mv (.tmp 0)))⟩
  (.seq ⟨some 5, none, (.call (.cst (.fn 58 [])) [(.tmp 4)])⟩
  (.seq ⟨some 6, none, (.ofA (.bin .eql (.tmp 5) (.cst (.v (.int .i64 0)))))⟩
  .done))))
 (.cond (.tmp 6)
 (.seq (.tree (.seq ⟨some 7, none, (.build [(.v (.int .i64 0)), (.v (.int .i64 0)), (.v (.string ⟨#[]⟩))] [])⟩
  (.seq ⟨none, none, (.store 3 (.tmp 2) (.tmp 7))⟩
  (.seq ⟨some 3, none, (.ofA (.mv (.cst (.v (.bool false)))))⟩
  .done))))
 .ret)
 .skip))
 (.seq (.tree (.seq ⟨some 8, none, (.ofA (.mv (.tmp 0)))⟩
  (.seq ⟨some 9, none, (.call (.cst (.fn 118 [])) [(.tmp 8), (.cst (.v (.int .i64 0)))])⟩
  (.seq ⟨some 10, none, (.ofA (.nilc (.tmp 9)))⟩
  (.seq ⟨some 11, none, (.ofA (.load (some 3) (.tmp 10)))⟩
  (.seq ⟨none, none, (.store 3 (.tmp 2) (.tmp 11))⟩
  (.seq ⟨some 3, none, (.ofA (.mv (.cst (.v (.bool true)))))⟩
  .done)))))))
 .ret)))
def r123 : List XR := [.cell 2 (some 3), .tmp 3]
theorem fn123 : FnX Tryz.prog 123 EFF 12 x123 r123 := ⟨_, Tryz.func123, by kernel_rfl, by kernel_rfl, by kernel_rfl, by kernel_rfl⟩
-- (*almshouse/store.Store).put (2 parameters)
def x124 : XC := (.seq (.tree (.seq ⟨some 3, none, (.box (.tmp 1))⟩
  (.seq ⟨some 4, none, (.ofA (.mv (.cst (.v (.int .i64 0)))))⟩
  .done)))
 (.block 0 (.loop (.block 1 (.seq (.seq (.tree (.seq ⟨some 11, none, (.ofA (.mv (.tmp 0)))⟩
  (.seq ⟨some 12, none, (.call (.cst (.fn 177 [])) [(.tmp 11)])⟩
  (.seq ⟨some 5, none, (.ofA (.mv (.tmp 12)))⟩
  .done))))
 (.seq (.tree (.seq ⟨some 13, none, (.ofA (.mv (.tmp 5)))⟩
  (.seq ⟨some 14, none, (.ofA (.bin .neq (.tmp 13) (.cst (.v (.int .i64 0)))))⟩
  .done)))
 (.cond (.tmp 14)
 (.seq (.tree (.seq ⟨some 15, none, (.ofA (.mv (.tmp 5)))⟩
  (.seq ⟨some 4, none, (.ofA (.mv (.tmp 15)))⟩
  .done)))
 .ret)
 .skip)))
 (.seq (.tree (.take ⟨some 17, none, (.ofA (.mv (.tmp 0)))⟩
  (.take ⟨some 18, none, (.ofA (.nilc (.tmp 17)))⟩
  (.take ⟨some 19, none, (.ofA (.faddr 1 (.tmp 18)))⟩
  (.take ⟨some 20, none, (.ofA (.load none (.tmp 19)))⟩
  (.take ⟨some 21, none, (.ofA (.mv (.tmp 0)))⟩
  (.take ⟨some 22, none, (.ofA (.nilc (.tmp 21)))⟩
  (.take ⟨some 23, none, (.ofA (.faddr 2 (.tmp 22)))⟩
  (.take ⟨some 24, none, (.ofA (.faddr 1 (.tmp 23)))⟩
  (.take ⟨some 25, none, (.ofA (.load none (.tmp 24)))⟩
  (.take ⟨some 26, none, (.ofA (.faddr 0 (.tmp 3)))⟩
  (.take ⟨some 27, none, (.ofA (.load none (.tmp 26)))⟩
  (.take ⟨some 28, none, (.ofA (.mv (.tmp 0)))⟩
  (.take ⟨some 29, none, (.ofA (.nilc (.tmp 28)))⟩
  (.take ⟨some 30, none, (.ofA (.faddr 9 (.tmp 29)))⟩
  (.take ⟨some 31, none, (.ofA (.load none (.tmp 30)))⟩
  (.take ⟨some 32, none, (.ofA (.faddr 1 (.tmp 3)))⟩
  (.take ⟨some 33, none, (.ofA (.load none (.tmp 32)))⟩
  (.act true [(⟨some 34, none, (.build [(.v (.int .i64 0)), (.v (.int .i64 0)), (.v (.int .i64 0)), (.v (.int .i64 0)), (.v (.int .i64 0)), (.v (.bool false))] [(0, 1, (.tmp 20)), (1, 1, (.tmp 25)), (2, 1, (.tmp 27)), (3, 1, (.tmp 31)), (4, 1, (.tmp 33))])⟩,
 (.act true [(⟨some 35, none, (.call (.cst (.fn 178 [])) [(.tmp 34)])⟩,
 (.take ⟨some 16, none, (.ofA (.mv (.tmp 35)))⟩
  (.take ⟨some 36, none, (.ofA (.extract 0 (.tmp 16)))⟩
  (.take ⟨some 37, none, (.ofA (.extract 1 (.tmp 16)))⟩
  (.take ⟨some 6, none, (.ofA (.mv (.tmp 36)))⟩
  (.take ⟨some 7, none, (.ofA (.mv (.tmp 37)))⟩
  .done))))))]))])))))))))))))))))))
 (.seq (.seq (.tree (.seq ⟨some 38, none, (.ofA (.mv (.tmp 7)))⟩
  (.seq ⟨some 39, none, (.ofA (.bin .neq (.tmp 38) (.cst (.v (.int .i64 0)))))⟩
  .done)))
 (.cond (.tmp 39)
 (.seq (.tree (.seq ⟨some 40, none, (.ofA (.mv (.tmp 7)))⟩
  (.seq ⟨some 4, none, (.ofA (.mv (.tmp 40)))⟩
  .done)))
 .ret)
 .skip))
 (.seq (.tree (.seq ⟨some 41, none, (.ofA (.mv (.tmp 0)))⟩
  (.seq ⟨some 42, none, (.ofA (.mv (.tmp 0)))⟩
  (.seq ⟨some 43, none, (.ofA (.nilc (.tmp 42)))⟩
  (.seq ⟨some 44, none, (.ofA (.faddr 10 (.tmp 43)))⟩
  (.seq ⟨some 45, none, (.ofA (.load none (.tmp 44)))⟩
  (.seq ⟨some 46, none, (.call (.cst (.fn 61 [])) [(.tmp 41), (.tmp 45)])⟩
  (.seq ⟨some 8, none, (.ofA (.mv (.tmp 46)))⟩
  .done))))))))
 (.seq (.tree (.take ⟨some 47, none, (.ofA (.mv (.tmp 0)))⟩
  (.take ⟨some 48, none, (.ofA (.nilc (.tmp 47)))⟩
  (.take ⟨some 49, none, (.ofA (.faddr 0 (.tmp 48)))⟩
  (.take ⟨some 50, none, (.ofA (.load none (.tmp 49)))⟩
  (.take ⟨some 51, none, (.ofA (.mv (.tmp 0)))⟩
  (.take ⟨some 52, none, (.ofA (.nilc (.tmp 51)))⟩
  (.take ⟨some 53, none, (.ofA (.faddr 1 (.tmp 52)))⟩
  (.take ⟨some 54, none, (.ofA (.load none (.tmp 53)))⟩
  (.take ⟨some 55, none, (.ofA (.mv (.tmp 0)))⟩
  (.take ⟨some 56, none, (.ofA (.nilc (.tmp 55)))⟩
  (.take ⟨some 57, none, (.ofA (.faddr 2 (.tmp 56)))⟩
  (.take ⟨some 58, none, (.ofA (.faddr 4 (.tmp 57)))⟩
  (.take ⟨some 59, none, (.ofA (.load none (.tmp 58)))⟩
  (.take ⟨some 60, none, (.ofA (.mv (.tmp 0)))⟩
  (.take ⟨some 61, none, (.ofA (.nilc (.tmp 60)))⟩
  (.take ⟨some 62, none, (.ofA (.faddr 10 (.tmp 61)))⟩
  (.take ⟨some 63, none, (.ofA (.load none (.tmp 62)))⟩
  (.take ⟨some 64, none, (.ofA (.isl 1 (.tmp 59) (.tmp 63)))⟩
  (.take ⟨some 65, none, (.ofA (.load none (.tmp 64)))⟩
  (.take ⟨some 66, none, (.ofA (.mv (.tmp 8)))⟩
  (.take ⟨some 67, none, (.ofA (.mv (.tmp 6)))⟩
  (.take ⟨some 68, none, (.ofA (.faddr 2 (.tmp 3)))⟩
  (.take ⟨some 69, none, (.ofA (.load none (.tmp 68)))⟩
  (.alt [false] [(⟨some 70, none, (.call (.cst (.fn 179 [])) [(.tmp 50), (.tmp 54), (.tmp 65), (.tmp 66), (.tmp 67), (.tmp 69)])⟩,
 (.take ⟨some 9, none, (.ofA (.mv (.tmp 70)))⟩
  .done))])))))))))))))))))))))))))
 (.seq (.tree (.seq ⟨some 71, none, (.ofA (.mv (.tmp 9)))⟩
  .done))
 (.block 2 (.seq (.tree (.seq ⟨some 74, none, (.ofA (.bin .eql (.tmp 71) (.cst (.v (.int .i64 0)))))⟩
  (.seq ⟨some 73, none, (.ofA (.mv (.tmp 74)))⟩
  .done)))
 (.cond (.tmp 73)
 (.seq (.tree (.seq ⟨some 75, none, (.ofA (.mv (.tmp 0)))⟩
  (.seq ⟨some 76, none, (.ofA (.nilc (.tmp 75)))⟩
  (.seq ⟨some 77, none, (.ofA (.faddr 9 (.tmp 76)))⟩
  (.seq ⟨some 78, none, (.ofA (.load none (.tmp 77)))⟩
  (.seq ⟨some 79, none, (.ofA (.bin .add (.tmp 78) (.cst (.v (.int .i64 1)))))⟩
  (.seq ⟨some 80, none, (.ofA (.nilc (.tmp 75)))⟩
  (.seq ⟨some 81, none, (.ofA (.faddr 9 (.tmp 80)))⟩
  (.seq ⟨none, none, (.store 1 (.tmp 81) (.tmp 79))⟩
  .done)))))))))
 (.seq (.tree (.take ⟨some 82, none, (.ofA (.mv (.tmp 0)))⟩
  (.take ⟨some 83, none, (.ofA (.nilc (.tmp 82)))⟩
  (.take ⟨some 84, none, (.ofA (.faddr 7 (.tmp 83)))⟩
  (.take ⟨some 85, none, (.ofA (.load none (.tmp 84)))⟩
  (.take ⟨some 86, none, (.ofA (.faddr 0 (.tmp 3)))⟩
  (.take ⟨some 87, none, (.ofA (.load none (.tmp 86)))⟩
  (.take ⟨some 88, none, (.ofA (.mv (.tmp 0)))⟩
  (.take ⟨some 89, none, (.ofA (.nilc (.tmp 88)))⟩
  (.take ⟨some 90, none, (.ofA (.faddr 10 (.tmp 89)))⟩
  (.take ⟨some 91, none, (.ofA (.load none (.tmp 90)))⟩
  (.take ⟨some 92, none, (.ofA (.mv (.tmp 8)))⟩
  (.alt [false] [(⟨some 93, none, (.call (.cst (.fn 68 [])) [(.tmp 85), (.tmp 87), (.tmp 91), (.tmp 92)])⟩,
 (.take ⟨some 4, none, (.ofA (.mv (.tmp 93)))⟩
  .done))])))))))))))))
 .ret))
 (.seq (.tree (.seq ⟨some 95, none, (.ofA (.bin .eql (.tmp 71) (.cst (.v (.int .i64 10)))))⟩
  (.seq ⟨some 94, none, (.ofA (.mv (.tmp 95)))⟩
  .done)))
 (.cond (.tmp 94)
 (.seq (.tree (.seq ⟨some 96, none, (.ofA (.mv (.tmp 0)))⟩
  (.seq ⟨some 97, none, (.call (.cst (.fn 180 [])) [(.tmp 96)])⟩
  (.seq ⟨some 10, none, (.ofA (.mv (.tmp 97)))⟩
  .done))))
 (.seq (.tree (.seq ⟨some 98, none, (.ofA (.mv (.tmp 10)))⟩
  (.seq ⟨some 99, none, (.ofA (.bin .neq (.tmp 98) (.cst (.v (.int .i64 0)))))⟩
  .done)))
 (.cond (.tmp 99)
 (.seq (.tree (.seq ⟨some 100, none, (.ofA (.mv (.tmp 10)))⟩
  (.seq ⟨some 4, none, (.ofA (.mv (.tmp 100)))⟩
  .done)))
 .ret)
 .skip)))
 (.seq (.tree (.seq ⟨some 72, none, (.ofA (.mv (.tmp 9)))⟩
  (.seq ⟨some 4, none, (.ofA (.mv (.tmp 72)))⟩
  .done)))
 .ret))))))))))))))))
def r124 : List XR := [.tmp 4]
theorem fn124 : FnX Tryz.prog 124 EFF 101 x124 r124 := ⟨_, Tryz.func124, by kernel_rfl, by kernel_rfl, by kernel_rfl, by kernel_rfl⟩
-- (*almshouse/buffer.Buffer).Drop (1 parameters)
def x125 : XC := (.seq (.tree (.seq ⟨some 2, none, (.ofA (.mv (.cst (.v (.bool false)))))⟩
  .done))
 (.seq (.seq (.tree (.seq ⟨some 3, none, (.ofA (.mv (.tmp 0)))⟩
  (.seq ⟨some 4, none, (.call (.cst (.fn 58 [])) [(.tmp 3)])⟩
  (.seq ⟨some 5, none, (.ofA (.bin .eql (.tmp 4) (.cst (.v (.int .i64 0)))))⟩
  .done))))
 (.cond (.tmp 5)
 (.seq (.tree (.seq ⟨some 2, none, (.ofA (.mv (.cst (.v (.bool false)))))⟩
  .done))
 .ret)
 .skip))
 (.seq (.tree (.seq ⟨some 6, none, (.ofA (.mv (.tmp 0)))⟩
  (.seq ⟨some 7, none, (.call (.cst (.fn 118 [])) [(.tmp 6), (.cst (.v (.int .i64 0)))])⟩
  (.seq ⟨some 8, none, (.build [(.v (.int .i64 0)), (.v (.int .i64 0)), (.v (.string ⟨#[]⟩))] [])⟩
  (.seq ⟨some 9, none, (.ofA (.nilc (.tmp 7)))⟩
  (.seq ⟨none, none, (.store 3 (.tmp 9) (.tmp 8))⟩
  .done))))))
 (.seq (.tree (.seq ⟨some 10, none, (.ofA (.mv (.tmp 0)))⟩
  (.seq ⟨some 11, none, (.ofA (.mv (.tmp 0)))⟩
  (.seq ⟨some 12, none, (.ofA (.nilc (.tmp 11)))⟩
  (.seq ⟨some 13, none, (.ofA (.faddr 12 (.tmp 12)))⟩
  (.seq ⟨some 14, none, (.ofA (.load none (.tmp 13)))⟩
  (.seq ⟨some 15, none, (.ofA (.bin .add (.tmp 14) (.cst (.v (.int .i64 1)))))⟩
  (.seq ⟨some 16, none, (.ofA (.bin .rem (.tmp 15) (.cst (.v (.int .i64 4)))))⟩
  (.seq ⟨some 17, none, (.ofA (.nilc (.tmp 10)))⟩
  (.seq ⟨some 18, none, (.ofA (.faddr 12 (.tmp 17)))⟩
  (.seq ⟨none, none, (.store 1 (.tmp 18) (.tmp 16))⟩
  .done)))))))))))
 (.seq (.tree (.seq ⟨some 19, none, (.ofA (.mv (.tmp 0)))⟩
  (.seq ⟨some 20, none, (.ofA (.nilc (.tmp 19)))⟩
  (.seq ⟨some 21, none, (.ofA (.faddr 13 (.tmp 20)))⟩
  (.seq ⟨some 22, none, (.ofA (.load none (.tmp 21)))⟩
  (.seq ⟨some 23, none, (.ofA (.bin .sub (.tmp 22) (.cst (.v (.int .i64 1)))))⟩
  (.seq ⟨some 24, none, (.ofA (.nilc (.tmp 19)))⟩
  (.seq ⟨some 25, none, (.ofA (.faddr 13 (.tmp 24)))⟩
  (.seq ⟨none, none, (.store 1 (.tmp 25) (.tmp 23))⟩
  .done)))))))))
 (.seq (.tree (.seq ⟨some 2, none, (.ofA (.mv (.cst (.v (.bool true)))))⟩
  .done))
 .ret))))))
def r125 : List XR := [.tmp 2]
theorem fn125 : FnX Tryz.prog 125 EFF 26 x125 r125 := ⟨_, Tryz.func125, by kernel_rfl, by kernel_rfl, by kernel_rfl, by kernel_rfl⟩
-- (*almshouse/nand.Nand).Bad (2 parameters)
def x126 : XC := (.seq (.tree (.seq ⟨some 4, none, (.ofA (.mv (.cst (.v (.bool false)))))⟩
  .done))
 (.seq (.tree (.seq ⟨some 6, none, (.ofA (.mv (.tmp 0)))⟩
  (.seq ⟨some 7, none, (.ofA (.mv (.tmp 1)))⟩
  (.seq ⟨some 8, none, (.call (.cst (.fn 168 [])) [(.tmp 6), (.tmp 7)])⟩
  (.seq ⟨some 5, none, (.ofA (.mv (.tmp 8)))⟩
  .done)))))
 (.seq (.tree (.seq ⟨some 9, none, (.ofA (.mv (.tmp 5)))⟩
  (.seq ⟨some 10, none, (.ofA (.eqn true 1 (.tmp 9) (.cst (.v (.pointer none)))))⟩
  (.seq ⟨some 11, none, (.ofA (.mv (.tmp 10)))⟩
  (.seq ⟨some 12, some (11, true), (.ofA (.mv (.tmp 5)))⟩
  (.seq ⟨some 13, some (11, true), (.ofA (.nilc (.tmp 12)))⟩
  (.seq ⟨some 14, some (11, true), (.ofA (.faddr 2 (.tmp 13)))⟩
  (.seq ⟨some 15, some (11, true), (.ofA (.load none (.tmp 14)))⟩
  (.seq ⟨some 16, none, (.ofA (.pick (.tmp 11) (.tmp 15) (.cst (.v (.bool false)))))⟩
  (.seq ⟨some 4, none, (.ofA (.mv (.tmp 16)))⟩
  .done))))))))))
 .ret)))
def r126 : List XR := [.tmp 4]
theorem fn126 : FnX Tryz.prog 126 EFF 17 x126 r126 := ⟨_, Tryz.func126, by kernel_rfl, by kernel_rfl, by kernel_rfl, by kernel_rfl⟩
-- (*almshouse/nand.Nand).Next (2 parameters)
def x127 : XC := (.seq (.tree (.seq ⟨some 4, none, (.ofA (.mv (.cst (.v (.int .i64 0)))))⟩
  .done))
 (.seq (.seq (.tree (.seq ⟨some 6, none, (.ofA (.mv (.tmp 0)))⟩
  (.seq ⟨some 7, none, (.ofA (.mv (.tmp 1)))⟩
  (.seq ⟨some 8, none, (.call (.cst (.fn 168 [])) [(.tmp 6), (.tmp 7)])⟩
  (.seq ⟨some 5, none, (.ofA (.mv (.tmp 8)))⟩
  .done)))))
 (.seq (.tree (.seq ⟨some 9, none, (.ofA (.mv (.tmp 5)))⟩
  (.seq ⟨some 10, none, (.ofA (.eqn true 1 (.tmp 9) (.cst (.v (.pointer none)))))⟩
  .done)))
 (.cond (.tmp 10)
 (.seq (.tree (.seq ⟨some 11, none, (.ofA (.mv (.tmp 5)))⟩
  (.seq ⟨some 12, none, (.ofA (.nilc (.tmp 11)))⟩
  (.seq ⟨some 13, none, (.ofA (.faddr 1 (.tmp 12)))⟩
  (.seq ⟨some 14, none, (.ofA (.load none (.tmp 13)))⟩
  (.seq ⟨some 4, none, (.ofA (.mv (.tmp 14)))⟩
  .done))))))
 .ret)
 .skip)))
 (.seq (.tree (.seq ⟨some 4, none, (.ofA (.mv (.cst (.v (.int .i64 0)))))⟩
  .done))
 .ret)))
def r127 : List XR := [.tmp 4]
theorem fn127 : FnX Tryz.prog 127 EFF 15 x127 r127 := ⟨_, Tryz.func127, by kernel_rfl, by kernel_rfl, by kernel_rfl, by kernel_rfl⟩
-- (*almshouse/table.Table).is (3 parameters)
def x128 : XC := (.seq (.tree (.seq ⟨some 6, none, (.ofA (.mv (.cst (.v (.bool false)))))⟩
  .done))
 (.seq (.tree (.seq ⟨some 7, none, (.ofA (.mv (.tmp 0)))⟩
  (.seq ⟨some 8, none, (.ofA (.eqn true 1 (.tmp 7) (.cst (.v (.pointer none)))))⟩
  (.seq ⟨some 9, none, (.ofA (.mv (.tmp 8)))⟩
  (.seq ⟨some 10, some (9, true), (.ofA (.mv (.tmp 1)))⟩
  (.seq ⟨some 11, some (9, true), (.ofA (.bin .geq (.tmp 10) (.cst (.v (.int .i64 0)))))⟩
  (.seq ⟨some 12, none, (.ofA (.pick (.tmp 9) (.tmp 11) (.cst (.v (.bool false)))))⟩
  (.seq ⟨some 13, none, (.ofA (.mv (.tmp 12)))⟩
  (.seq ⟨some 14, some (13, true), (.ofA (.mv (.tmp 1)))⟩
  (.seq ⟨some 15, some (13, true), (.ofA (.mv (.tmp 0)))⟩
  (.seq ⟨some 16, some (13, true), (.ofA (.nilc (.tmp 15)))⟩
  (.seq ⟨some 17, some (13, true), (.ofA (.faddr 194 (.tmp 16)))⟩
  (.seq ⟨some 18, some (13, true), (.ofA (.load none (.tmp 17)))⟩
  (.seq ⟨some 19, some (13, true), (.ofA (.len (.tmp 18)))⟩
  (.seq ⟨some 20, some (13, true), (.ofA (.bin .lss (.tmp 14) (.tmp 19)))⟩
  (.seq ⟨some 21, none, (.ofA (.pick (.tmp 13) (.tmp 20) (.cst (.v (.bool false)))))⟩
  (.seq ⟨some 22, none, (.ofA (.mv (.tmp 21)))⟩
  (.seq ⟨some 23, some (22, true), (.ofA (.mv (.tmp 2)))⟩
  (.seq ⟨some 24, some (22, true), (.ofA (.bin .geq (.tmp 23) (.cst (.v (.int .i64 0)))))⟩
  (.seq ⟨some 25, none, (.ofA (.pick (.tmp 22) (.tmp 24) (.cst (.v (.bool false)))))⟩
  (.seq ⟨some 26, none, (.ofA (.mv (.tmp 25)))⟩
  (.seq ⟨some 27, some (26, true), (.ofA (.mv (.tmp 2)))⟩
  (.seq ⟨some 28, some (26, true), (.ofA (.mv (.tmp 0)))⟩
  (.seq ⟨some 29, some (26, true), (.ofA (.nilc (.tmp 28)))⟩
  (.seq ⟨some 30, some (26, true), (.ofA (.faddr 0 (.tmp 29)))⟩
  (.seq ⟨some 31, some (26, true), (.ofA (.load none (.tmp 30)))⟩
  (.seq ⟨some 32, some (26, true), (.ofA (.bin .lss (.tmp 27) (.tmp 31)))⟩
  (.seq ⟨some 33, none, (.ofA (.pick (.tmp 26) (.tmp 32) (.cst (.v (.bool false)))))⟩
  (.seq ⟨some 6, none, (.ofA (.mv (.tmp 33)))⟩
  .done)))))))))))))))))))))))))))))
 .ret))
def r128 : List XR := [.tmp 6]
theorem fn128 : FnX Tryz.prog 128 EFF 34 x128 r128 := ⟨_, Tryz.func128, by kernel_rfl, by kernel_rfl, by kernel_rfl, by kernel_rfl⟩
-- (*almshouse/nand.Nand).Blocks (1 parameters)
def x130 : XC := (.seq (.tree (.seq ⟨some 2, none, (.ofA (.mv (.cst (.v (.int .i64 0)))))⟩
  .done))
 (.seq (.seq (.tree (.seq ⟨some 3, none, (.ofA (.mv (.tmp 0)))⟩
  (.seq ⟨some 4, none, (.ofA (.eqn false 1 (.tmp 3) (.cst (.v (.pointer none)))))⟩
  .done)))
 (.cond (.tmp 4)
 (.seq (.tree (.seq ⟨some 2, none, (.ofA (.mv (.cst (.v (.int .i64 0)))))⟩
  .done))
 .ret)
 .skip))
 (.seq (.tree (.seq ⟨some 5, none, (.ofA (.mv (.tmp 0)))⟩
  (.seq ⟨some 6, none, (.ofA (.nilc (.tmp 5)))⟩
  (.seq ⟨some 7, none, (.ofA (.faddr 6 (.tmp 6)))⟩
  (.seq ⟨some 8, none, (.ofA (.load none (.tmp 7)))⟩
  (.seq ⟨some 9, none, (.ofA (.len (.tmp 8)))⟩
  (.seq ⟨some 2, none, (.ofA (.mv (.tmp 9)))⟩
  .done)))))))
 .ret)))
def r130 : List XR := [.tmp 2]
theorem fn130 : FnX Tryz.prog 130 EFF 10 x130 r130 := ⟨_, Tryz.func130, by kernel_rfl, by kernel_rfl, by kernel_rfl, by kernel_rfl⟩
-- slices.Contains[[]int,int] (2 parameters)
def x132 : XC := (.seq (.tree (.seq ⟨some 4, none, (.ofA (.mv (.cst (.v (.bool false)))))⟩
  .done))
 (.seq (.tree (.seq ⟨some 5, none, (.ofA (.mv (.tmp 0)))⟩
  (.seq ⟨some 6, none, (.ofA (.mv (.tmp 1)))⟩
  (.seq ⟨some 7, none, (.call (.cst (.fn 184 [])) [(.tmp 5), (.tmp 6)])⟩
  (.seq ⟨some 8, none, (.ofA (.bin .geq (.tmp 7) (.cst (.v (.int .i64 0)))))⟩
  (.seq ⟨some 4, none, (.ofA (.mv (.tmp 8)))⟩
  .done))))))
 .ret))
def r132 : List XR := [.tmp 4]
theorem fn132 : FnX Tryz.prog 132 EFF 9 x132 r132 := ⟨_, Tryz.func132, by kernel_rfl, by kernel_rfl, by kernel_rfl, by kernel_rfl⟩
-- slices.Sort[[]int,int] (1 parameters)
def x133 : XC := (.seq (.tree (.seq ⟨some 3, none, (.ofA (.mv (.tmp 0)))⟩
  (.seq ⟨some 4, none, (.ofA (.len (.tmp 3)))⟩
  (.seq ⟨some 2, none, (.ofA (.mv (.tmp 4)))⟩
  .done))))
 (.tree (.seq ⟨some 5, none, (.ofA (.mv (.tmp 0)))⟩
  (.seq ⟨some 6, none, (.ofA (.mv (.tmp 2)))⟩
  (.seq ⟨some 7, none, (.ofA (.mv (.tmp 2)))⟩
  (.seq ⟨some 8, none, (.ofA (.conv .u64 (.tmp 7)))⟩
  (.seq ⟨some 9, none, (.call (.cst (.fn 186 [])) [(.tmp 8)])⟩
  (.seq ⟨some 10, none, (.call (.cst (.fn 185 [])) [(.tmp 5), (.cst (.v (.int .i64 0))), (.tmp 6), (.tmp 9)])⟩
  .done))))))))
def r133 : List XR := []
theorem fn133 : FnX Tryz.prog 133 EFF 11 x133 r133 := ⟨_, Tryz.func133, by kernel_rfl, by kernel_rfl, by kernel_rfl, by kernel_rfl⟩
-- (*almshouse/nand.Nand).Blank (2 parameters)
def x136 : XC := (.seq (.tree (.seq ⟨some 4, none, (.ofA (.mv (.cst (.v (.bool false)))))⟩
  .done))
 (.seq (.tree (.seq ⟨some 6, none, (.ofA (.mv (.tmp 0)))⟩
  (.seq ⟨some 7, none, (.ofA (.mv (.tmp 1)))⟩
  (.seq ⟨some 8, none, (.call (.cst (.fn 168 [])) [(.tmp 6), (.tmp 7)])⟩
  (.seq ⟨some 5, none, (.ofA (.mv (.tmp 8)))⟩
  .done)))))
 (.seq (.tree (.seq ⟨some 9, none, (.ofA (.mv (.tmp 5)))⟩
  (.seq ⟨some 10, none, (.ofA (.eqn true 1 (.tmp 9) (.cst (.v (.pointer none)))))⟩
  (.seq ⟨some 11, none, (.ofA (.mv (.tmp 10)))⟩
  (.seq ⟨some 12, some (11, true), (.ofA (.mv (.tmp 5)))⟩
  (.seq ⟨some 13, some (11, true), (.ofA (.nilc (.tmp 12)))⟩
  (.seq ⟨some 14, some (11, true), (.ofA (.faddr 1 (.tmp 13)))⟩
  (.seq ⟨some 15, some (11, true), (.ofA (.load none (.tmp 14)))⟩
  (.seq ⟨some 16, some (11, true), (.ofA (.bin .eql (.tmp 15) (.cst (.v (.int .i64 0)))))⟩
  (.seq ⟨some 17, none, (.ofA (.pick (.tmp 11) (.tmp 16) (.cst (.v (.bool false)))))⟩
  (.seq ⟨some 4, none, (.ofA (.mv (.tmp 17)))⟩
  .done)))))))))))
 .ret)))
def r136 : List XR := [.tmp 4]
theorem fn136 : FnX Tryz.prog 136 EFF 18 x136 r136 := ⟨_, Tryz.func136, by kernel_rfl, by kernel_rfl, by kernel_rfl, by kernel_rfl⟩
-- (*sync/atomic.Bool).Store (2 parameters)
def x137 : XC := (.tree (.take ⟨some 4, none, (.ofA (.mv (.tmp 0)))⟩
  (.take ⟨some 5, none, (.ofA (.nilc (.tmp 4)))⟩
  (.take ⟨some 6, none, (.ofA (.faddr 0 (.tmp 5)))⟩
  (.take ⟨some 7, none, (.ofA (.mv (.tmp 1)))⟩
  (.alt [true] [(⟨some 8, none, (.call (.cst (.fn 194 [])) [(.tmp 7)])⟩,
 (.alt [false] [(⟨some 9, none, (.call (.cst (.fn 193 [])) [(.tmp 6), (.tmp 8)])⟩,
 .done)]))]))))))
def r137 : List XR := []
theorem fn137 : FnX Tryz.prog 137 EFF 10 x137 r137 := ⟨_, Tryz.func137, by kernel_rfl, by kernel_rfl, by kernel_rfl, by kernel_rfl⟩
-- (*sync/atomic.Int64).Store (2 parameters)
def x138 : XC := (.tree (.seq ⟨some 4, none, (.ofA (.mv (.tmp 0)))⟩
  (.seq ⟨some 5, none, (.ofA (.nilc (.tmp 4)))⟩
  (.seq ⟨some 6, none, (.ofA (.faddr 0 (.tmp 5)))⟩
  (.seq ⟨some 7, none, (.ofA (.mv (.tmp 1)))⟩
  (.seq ⟨some 8, none, (.call (.cst (.fn 195 [])) [(.tmp 6), (.tmp 7)])⟩
  .done))))))
def r138 : List XR := []
theorem fn138 : FnX Tryz.prog 138 EFF 9 x138 r138 := ⟨_, Tryz.func138, by kernel_rfl, by kernel_rfl, by kernel_rfl, by kernel_rfl⟩
-- (*almshouse/draws.Draws).of (2 parameters)
def x139 : XC := (.seq (.tree (.seq ⟨some 4, none, (.ofA (.mv (.cst (.v (.pointer none)))))⟩
  .done))
 (.seq (.seq (.tree (.seq ⟨some 5, none, (.ofA (.mv (.tmp 0)))⟩
  (.seq ⟨some 6, none, (.ofA (.eqn false 1 (.tmp 5) (.cst (.v (.pointer none)))))⟩
  (.seq ⟨some 7, none, (.ofA (.mv (.tmp 6)))⟩
  (.seq ⟨some 8, some (7, false), (.ofA (.mv (.tmp 1)))⟩
  (.seq ⟨some 9, some (7, false), (.ofA (.bin .lss (.tmp 8) (.cst (.v (.int .i64 0)))))⟩
  (.seq ⟨some 10, none, (.ofA (.pick (.tmp 7) (.cst (.v (.bool true))) (.tmp 9)))⟩
  (.seq ⟨some 11, none, (.ofA (.mv (.tmp 10)))⟩
  (.seq ⟨some 12, some (11, false), (.ofA (.mv (.tmp 1)))⟩
  (.seq ⟨some 13, some (11, false), (.ofA (.bin .geq (.tmp 12) (.cst (.v (.int .i64 4)))))⟩
  (.seq ⟨some 14, none, (.ofA (.pick (.tmp 11) (.cst (.v (.bool true))) (.tmp 13)))⟩
  .done)))))))))))
 (.cond (.tmp 14)
 (.seq (.tree (.seq ⟨some 4, none, (.ofA (.mv (.cst (.v (.pointer none)))))⟩
  .done))
 .ret)
 .skip))
 (.seq (.tree (.seq ⟨some 15, none, (.ofA (.mv (.tmp 0)))⟩
  (.seq ⟨some 16, none, (.ofA (.mv (.tmp 1)))⟩
  (.seq ⟨some 17, none, (.ofA (.nilc (.tmp 15)))⟩
  (.seq ⟨some 18, none, (.ofA (.faddr 0 (.tmp 17)))⟩
  (.seq ⟨some 19, none, (.ofA (.iarr 4 3 (.tmp 18) (.tmp 16)))⟩
  (.seq ⟨some 4, none, (.ofA (.mv (.tmp 19)))⟩
  .done)))))))
 .ret)))
def r139 : List XR := [.tmp 4]
theorem fn139 : FnX Tryz.prog 139 EFF 20 x139 r139 := ⟨_, Tryz.func139, by kernel_rfl, by kernel_rfl, by kernel_rfl, by kernel_rfl⟩
-- (*sync/atomic.Int64).Load (1 parameters)
def x140 : XC := (.seq (.tree (.seq ⟨some 2, none, (.ofA (.mv (.cst (.v (.int .i64 0)))))⟩
  .done))
 (.seq (.tree (.seq ⟨some 3, none, (.ofA (.mv (.tmp 0)))⟩
  (.seq ⟨some 4, none, (.ofA (.nilc (.tmp 3)))⟩
  (.seq ⟨some 5, none, (.ofA (.faddr 0 (.tmp 4)))⟩
  (.seq ⟨some 6, none, (.call (.cst (.fn 196 [])) [(.tmp 5)])⟩
  (.seq ⟨some 2, none, (.ofA (.mv (.tmp 6)))⟩
  .done))))))
 .ret))
def r140 : List XR := [.tmp 2]
theorem fn140 : FnX Tryz.prog 140 EFF 7 x140 r140 := ⟨_, Tryz.func140, by kernel_rfl, by kernel_rfl, by kernel_rfl, by kernel_rfl⟩
-- almshouse/ledger.there (2 parameters)
def x141 : XC := (.seq (.tree (.seq ⟨some 2, none, (.box (.tmp 0))⟩
  (.seq ⟨some 4, none, (.ofA (.mv (.cst (.v (.int .i64 0)))))⟩
  .done)))
 (.seq (.block 0 (.seq (.tree (.seq ⟨some 6, none, (.ofA (.mv (.tmp 1)))⟩
  (.seq ⟨some 7, none, (.call (.cst (.fn 151 [])) [(.tmp 6), (.cst (.v (.int .i64 0))), (.cst (.v (.int .i64 3)))])⟩
  (.seq ⟨some 8, none, (.ofA (.un .not (.tmp 7)))⟩
  (.seq ⟨some 5, none, (.ofA (.mv (.tmp 8)))⟩
  .done)))))
 (.cond (.tmp 5)
 (.seq (.tree (.seq ⟨some 4, none, (.ofA (.mv (.cst (.v (.int .i64 5)))))⟩
  .done))
 .ret)
 (.seq (.tree (.seq ⟨some 10, none, (.ofA (.mv (.tmp 1)))⟩
  (.seq ⟨some 11, none, (.ofA (.faddr 2 (.tmp 2)))⟩
  (.seq ⟨some 12, none, (.ofA (.iarr 4 5 (.tmp 11) (.tmp 10)))⟩
  (.seq ⟨some 13, none, (.ofA (.faddr 0 (.tmp 12)))⟩
  (.seq ⟨some 14, none, (.ofA (.load none (.tmp 13)))⟩
  (.seq ⟨some 15, none, (.ofA (.un .not (.tmp 14)))⟩
  (.seq ⟨some 9, none, (.ofA (.mv (.tmp 15)))⟩
  .done))))))))
 (.cond (.tmp 9)
 (.seq (.tree (.seq ⟨some 4, none, (.ofA (.mv (.cst (.v (.int .i64 6)))))⟩
  .done))
 .ret)
 .skip)))))
 (.seq (.tree (.seq ⟨some 4, none, (.ofA (.mv (.cst (.v (.int .i64 0)))))⟩
  .done))
 .ret)))
def r141 : List XR := [.tmp 4]
theorem fn141 : FnX Tryz.prog 141 EFF 16 x141 r141 := ⟨_, Tryz.func141, by kernel_rfl, by kernel_rfl, by kernel_rfl, by kernel_rfl⟩
-- almshouse/rule.Check (2 parameters)
def x142 : XC := (.seq (.tree (.seq ⟨some 4, none, (.ofA (.mv (.cst (.v (.int .i64 0)))))⟩
  .done))
 (.seq (.seq (.tree (.seq ⟨some 5, none, (.ofA (.mv (.tmp 0)))⟩
  (.seq ⟨some 6, none, (.ofA (.bin .lss (.tmp 5) (.cst (.v (.int .i64 1)))))⟩
  (.seq ⟨some 7, none, (.ofA (.mv (.tmp 6)))⟩
  (.seq ⟨some 8, some (7, false), (.ofA (.mv (.tmp 0)))⟩
  (.seq ⟨some 9, some (7, false), (.ofA (.bin .gtr (.tmp 8) (.cst (.v (.int .i64 64)))))⟩
  (.seq ⟨some 10, none, (.ofA (.pick (.tmp 7) (.cst (.v (.bool true))) (.tmp 9)))⟩
  (.seq ⟨some 11, none, (.ofA (.mv (.tmp 10)))⟩
  (.seq ⟨some 12, some (11, false), (.ofA (.mv (.tmp 1)))⟩
  (.seq ⟨some 13, some (11, false), (.ofA (.bin .lss (.tmp 12) (.cst (.v (.int .i64 0)))))⟩
  (.seq ⟨some 14, none, (.ofA (.pick (.tmp 11) (.cst (.v (.bool true))) (.tmp 13)))⟩
  (.seq ⟨some 15, none, (.ofA (.mv (.tmp 14)))⟩
  (.seq ⟨some 16, some (15, false), (.ofA (.mv (.tmp 1)))⟩
  (.seq ⟨some 17, some (15, false), (.ofA (.bin .gtr (.tmp 16) (.cst (.v (.int .i64 8)))))⟩
  (.seq ⟨some 18, none, (.ofA (.pick (.tmp 15) (.cst (.v (.bool true))) (.tmp 17)))⟩
  .done)))))))))))))))
 (.cond (.tmp 18)
 (.seq (.tree (.seq ⟨some 4, none, (.ofA (.mv (.cst (.v (.int .i64 5)))))⟩
  .done))
 .ret)
 .skip))
 (.seq (.tree (.seq ⟨some 4, none, (.ofA (.mv (.cst (.v (.int .i64 0)))))⟩
  .done))
 .ret)))
def r142 : List XR := [.tmp 4]
theorem fn142 : FnX Tryz.prog 142 EFF 19 x142 r142 := ⟨_, Tryz.func142, by kernel_rfl, by kernel_rfl, by kernel_rfl, by kernel_rfl⟩
-- almshouse/ledger.change (2 parameters)
def x143 : XC := (.seq (.tree (.seq ⟨some 2, none, (.box (.tmp 0))⟩
  (.seq ⟨some 4, none, (.alloc [(.v (.int .i64 0)), (.v (.int .i64 0)), (.v (.bool false)), (.v (.int .i64 0)), (.v (.int .i64 0)), (.v (.int .i64 0)), (.v (.slice none 0 0)), (.v (.bool false)), (.v (.int .i64 0)), (.v (.int .i64 0)), (.v (.int .i64 0)), (.v (.slice none 0 0)), (.v (.bool false)), (.v (.int .i64 0)), (.v (.int .i64 0)), (.v (.int .i64 0)), (.v (.slice none 0 0)), (.v (.bool false)), (.v (.int .i64 0)), (.v (.int .i64 0)), (.v (.int .i64 0)), (.v (.slice none 0 0))])⟩
  (.seq ⟨some 5, none, (.ofA (.mv (.cst (.v (.int .i64 0)))))⟩
  .done))))
 (.seq (.seq (.tree (.seq ⟨some 7, none, (.ofA (.faddr 0 (.tmp 2)))⟩
  (.seq ⟨some 8, none, (.ofA (.load none (.tmp 7)))⟩
  (.seq ⟨some 9, none, (.ofA (.bin .eql (.tmp 8) (.cst (.v (.int .i64 2147483647)))))⟩
  .done))))
 (.cond (.tmp 9)
 (.seq (.tree (.seq ⟨some 10, none, (.build [(.v (.int .i64 0)), (.v (.int .i64 0)), (.v (.bool false)), (.v (.int .i64 0)), (.v (.int .i64 0)), (.v (.int .i64 0)), (.v (.slice none 0 0)), (.v (.bool false)), (.v (.int .i64 0)), (.v (.int .i64 0)), (.v (.int .i64 0)), (.v (.slice none 0 0)), (.v (.bool false)), (.v (.int .i64 0)), (.v (.int .i64 0)), (.v (.int .i64 0)), (.v (.slice none 0 0)), (.v (.bool false)), (.v (.int .i64 0)), (.v (.int .i64 0)), (.v (.int .i64 0)), (.v (.slice none 0 0))] [])⟩
  (.seq ⟨none, none, (.store 22 (.tmp 4) (.tmp 10))⟩
  (.seq ⟨some 5, none, (.ofA (.mv (.cst (.v (.int .i64 4)))))⟩
  .done))))
 .ret)
 .skip))
 (.seq (.tree (.seq ⟨some 11, none, (.ofA (.load (some 22) (.tmp 2)))⟩
  (.seq ⟨some 12, none, (.call (.cst (.fn 105 [])) [(.tmp 11)])⟩
  (.seq ⟨some 6, none, (.alloc [(.v (.int .i64 0)), (.v (.int .i64 0)), (.v (.bool false)), (.v (.int .i64 0)), (.v (.int .i64 0)), (.v (.int .i64 0)), (.v (.slice none 0 0)), (.v (.bool false)), (.v (.int .i64 0)), (.v (.int .i64 0)), (.v (.int .i64 0)), (.v (.slice none 0 0)), (.v (.bool false)), (.v (.int .i64 0)), (.v (.int .i64 0)), (.v (.int .i64 0)), (.v (.slice none 0 0)), (.v (.bool false)), (.v (.int .i64 0)), (.v (.int .i64 0)), (.v (.int .i64 0)), (.v (.slice none 0 0))])⟩
  (.seq ⟨none, none, (.store 22 (.tmp 6) (.tmp 12))⟩
  .done)))))
 (.seq (.tree (.seq ⟨some 13, none, (.ofA (.faddr 0 (.tmp 6)))⟩
  (.seq ⟨some 14, none, (.ofA (.load none (.tmp 13)))⟩
  (.seq ⟨some 15, none, (.ofA (.bin .add (.tmp 14) (.cst (.v (.int .i64 1)))))⟩
  (.seq ⟨some 16, none, (.ofA (.faddr 0 (.tmp 6)))⟩
  (.seq ⟨none, none, (.store 1 (.tmp 16) (.tmp 15))⟩
  .done))))))
 (.seq (.tree (.seq ⟨some 17, none, (.ofA (.mv (.tmp 1)))⟩
  (.seq ⟨some 18, none, (.call (.tmp 17) [(.tmp 6)])⟩
  .done)))
 (.seq (.tree (.seq ⟨some 19, none, (.ofA (.load (some 22) (.tmp 6)))⟩
  (.seq ⟨none, none, (.store 22 (.tmp 4) (.tmp 19))⟩
  (.seq ⟨some 5, none, (.ofA (.mv (.cst (.v (.int .i64 0)))))⟩
  .done))))
 .ret))))))
def r143 : List XR := [.cell 4 (some 22), .tmp 5]
theorem fn143 : FnX Tryz.prog 143 EFF 20 x143 r143 := ⟨_, Tryz.func143, by kernel_rfl, by kernel_rfl, by kernel_rfl, by kernel_rfl⟩
-- almshouse/ledger.Create$1 (1 parameters)
def x144 : XC := (.seq (.tree (.seq ⟨some 6, none, (.ofA (.mv (.tmp 0)))⟩
  (.seq ⟨some 7, none, (.ofA (.nilc (.tmp 6)))⟩
  (.seq ⟨some 8, none, (.ofA (.faddr 1 (.tmp 7)))⟩
  (.seq ⟨some 9, none, (.ofA (.load none (.tmp 8)))⟩
  (.seq ⟨some 10, none, (.ofA (.bin .add (.tmp 9) (.cst (.v (.int .i64 1)))))⟩
  (.seq ⟨some 11, none, (.ofA (.nilc (.tmp 6)))⟩
  (.seq ⟨some 12, none, (.ofA (.faddr 1 (.tmp 11)))⟩
  (.seq ⟨none, none, (.store 1 (.tmp 12) (.tmp 10))⟩
  .done)))))))))
 (.tree (.take ⟨some 13, none, (.ofA (.mv (.tmp 0)))⟩
  (.take ⟨some 14, none, (.ofA (.load none (.tmp 4)))⟩
  (.take ⟨some 15, none, (.ofA (.mv (.tmp 0)))⟩
  (.take ⟨some 16, none, (.ofA (.nilc (.tmp 15)))⟩
  (.take ⟨some 17, none, (.ofA (.faddr 1 (.tmp 16)))⟩
  (.take ⟨some 18, none, (.ofA (.load none (.tmp 17)))⟩
  (.take ⟨some 19, none, (.ofA (.load none (.tmp 1)))⟩
  (.take ⟨some 20, none, (.ofA (.load none (.tmp 2)))⟩
  (.take ⟨some 21, none, (.ofA (.load none (.tmp 3)))⟩
  (.take ⟨some 24, none, (.ofA (.nilc (.tmp 13)))⟩
  (.take ⟨some 25, none, (.ofA (.faddr 2 (.tmp 24)))⟩
  (.alt [true] [(⟨some 22, none, (.call (.cst (.fn 55 [])) [(.tmp 21)])⟩,
 (.alt [true] [(⟨some 23, none, (.build [(.v (.bool false)), (.v (.int .i64 0)), (.v (.int .i64 0)), (.v (.int .i64 0)), (.v (.slice none 0 0))] [(0, 1, (.cst (.v (.bool true)))), (1, 1, (.tmp 18)), (2, 1, (.tmp 19)), (3, 1, (.tmp 20)), (4, 1, (.tmp 22))])⟩,
 (.take ⟨some 26, none, (.ofA (.iarr 4 5 (.tmp 25) (.tmp 14)))⟩
  (.alt [false] [(⟨none, none, (.store 5 (.tmp 26) (.tmp 23))⟩,
 .done)])))]))]))))))))))))))
def r144 : List XR := []
theorem fn144 : FnX Tryz.prog 144 EFF 27 x144 r144 := ⟨_, Tryz.func144, by kernel_rfl, by kernel_rfl, by kernel_rfl, by kernel_rfl⟩
-- almshouse/ledger.Free (3 parameters)
def x145 : XC := (.seq (.tree (.seq ⟨some 3, none, (.box (.tmp 0))⟩
  (.seq ⟨some 6, none, (.ofA (.mv (.cst (.v (.slice none 0 0)))))⟩
  .done)))
 (.seq (.tree (.seq ⟨some 7, none, (.ofA (.mv (.cst (.v (.slice none 0 0)))))⟩
  .done))
 (.seq (.seq (.tree (.seq ⟨some 8, none, (.ofA (.mv (.cst (.v (.int .i64 2)))))⟩
  .done))
 (.block 0 (.loop (.seq (.seq (.tree (.seq ⟨some 9, none, (.ofA (.mv (.tmp 8)))⟩
  (.seq ⟨some 10, none, (.ofA (.mv (.tmp 1)))⟩
  (.seq ⟨some 11, none, (.ofA (.bin .lss (.tmp 9) (.tmp 10)))⟩
  .done))))
 (.cond (.tmp 11)
 .skip
 (.exit 0)))
 (.seq (.block 1 (.seq (.tree (.seq ⟨some 14, none, (.ofA (.load (some 22) (.tmp 3)))⟩
  (.seq ⟨some 15, none, (.ofA (.mv (.tmp 8)))⟩
  (.seq ⟨some 16, none, (.call (.cst (.fn 197 [])) [(.tmp 14), (.tmp 15)])⟩
  (.seq ⟨some 17, none, (.ofA (.bin .lss (.tmp 16) (.cst (.v (.int .i64 0)))))⟩
  (.seq ⟨some 18, none, (.ofA (.mv (.tmp 17)))⟩
  (.seq ⟨some 19, some (18, true), (.ofA (.mv (.tmp 2)))⟩
  (.seq ⟨some 20, some (18, true), (.ofA (.eqn false 3 (.tmp 19) (.cst (.v .nilFunc))))⟩
  (.seq ⟨some 21, some (18, true), (.ofA (.mv (.tmp 20)))⟩
  (.seq ⟨some 22, some (21, false), (.ofA (.mv (.tmp 2)))⟩
  (.seq ⟨some 23, some (21, false), (.ofA (.mv (.tmp 8)))⟩
  (.seq ⟨some 24, some (21, false), (.call (.tmp 22) [(.tmp 23)])⟩
  (.seq ⟨some 25, some (21, false), (.ofA (.un .not (.tmp 24)))⟩
  (.seq ⟨some 26, some (18, true), (.ofA (.pick (.tmp 21) (.cst (.v (.bool true))) (.tmp 25)))⟩
  (.seq ⟨some 27, none, (.ofA (.pick (.tmp 18) (.tmp 26) (.cst (.v (.bool false)))))⟩
  .done)))))))))))))))
 (.cond (.tmp 27)
 (.tree (.seq ⟨some 28, none, (.ofA (.mv (.tmp 7)))⟩
  (.seq ⟨some 29, none, (.ofA (.mv (.tmp 8)))⟩
  (.seq ⟨some 30, none, (.buildSl 1 1 [(.v (.int .i64 0))] [(0, 1, (.tmp 29))])⟩
  (.seq ⟨some 31, none, (.app 1 8 (.tmp 28) (.tmp 30))⟩
  (.seq ⟨some 7, none, (.ofA (.mv (.tmp 31)))⟩
  .done))))))
 .skip)))
 (.tree (.seq ⟨some 12, none, (.ofA (.mv (.tmp 8)))⟩
  (.seq ⟨some 13, none, (.ofA (.bin .add (.tmp 12) (.cst (.v (.int .i64 1)))))⟩
  (.seq ⟨some 8, none, (.ofA (.mv (.tmp 13)))⟩
  .done)))))))))
 (.seq (.tree (.seq ⟨some 32, none, (.ofA (.mv (.tmp 7)))⟩
  (.seq ⟨some 6, none, (.ofA (.mv (.tmp 32)))⟩
  .done)))
 .ret))))
def r145 : List XR := [.tmp 6]
theorem fn145 : FnX Tryz.prog 145 EFF 33 x145 r145 := ⟨_, Tryz.func145, by kernel_rfl, by kernel_rfl, by kernel_rfl, by kernel_rfl⟩
-- almshouse/rule.paged (1 parameters)
def x146 : XC := (.seq (.tree (.seq ⟨some 2, none, (.ofA (.mv (.cst (.v (.bool false)))))⟩
  .done))
 (.seq (.tree (.seq ⟨some 3, none, (.ofA (.mv (.tmp 0)))⟩
  (.seq ⟨some 4, none, (.ofA (.bin .geq (.tmp 3) (.cst (.v (.int .i64 2)))))⟩
  (.seq ⟨some 5, none, (.ofA (.mv (.tmp 4)))⟩
  (.seq ⟨some 6, some (5, true), (.ofA (.mv (.tmp 0)))⟩
  (.seq ⟨some 7, some (5, true), (.ofA (.bin .leq (.tmp 6) (.cst (.v (.int .i64 16)))))⟩
  (.seq ⟨some 8, none, (.ofA (.pick (.tmp 5) (.tmp 7) (.cst (.v (.bool false)))))⟩
  (.seq ⟨some 2, none, (.ofA (.mv (.tmp 8)))⟩
  .done))))))))
 .ret))
def r146 : List XR := [.tmp 2]
theorem fn146 : FnX Tryz.prog 146 EFF 9 x146 r146 := ⟨_, Tryz.func146, by kernel_rfl, by kernel_rfl, by kernel_rfl, by kernel_rfl⟩
-- almshouse/rule.Data (2 parameters)
def x147 : XC := (.seq (.tree (.seq ⟨some 4, none, (.ofA (.mv (.cst (.v (.int .i64 0)))))⟩
  .done))
 (.seq (.seq (.tree (.seq ⟨some 5, none, (.ofA (.mv (.tmp 0)))⟩
  (.seq ⟨some 6, none, (.call (.cst (.fn 142 [])) [(.tmp 5), (.cst (.v (.int .i64 0)))])⟩
  (.seq ⟨some 7, none, (.ofA (.bin .neq (.tmp 6) (.cst (.v (.int .i64 0)))))⟩
  (.seq ⟨some 8, none, (.ofA (.mv (.tmp 7)))⟩
  (.seq ⟨some 9, some (8, false), (.ofA (.mv (.tmp 1)))⟩
  (.seq ⟨some 10, some (8, false), (.call (.cst (.fn 146 [])) [(.tmp 9)])⟩
  (.seq ⟨some 11, some (8, false), (.ofA (.un .not (.tmp 10)))⟩
  (.seq ⟨some 12, none, (.ofA (.pick (.tmp 8) (.cst (.v (.bool true))) (.tmp 11)))⟩
  .done)))))))))
 (.cond (.tmp 12)
 (.seq (.tree (.seq ⟨some 4, none, (.ofA (.mv (.cst (.v (.int .i64 0)))))⟩
  .done))
 .ret)
 .skip))
 (.seq (.tree (.seq ⟨some 13, none, (.ofA (.mv (.tmp 0)))⟩
  (.seq ⟨some 14, none, (.ofA (.mv (.tmp 1)))⟩
  (.seq ⟨some 15, none, (.ofA (.bin .quo (.tmp 13) (.tmp 14)))⟩
  (.seq ⟨some 16, none, (.ofA (.bin .add (.tmp 15) (.cst (.v (.int .i64 2)))))⟩
  (.seq ⟨some 4, none, (.ofA (.mv (.tmp 16)))⟩
  .done))))))
 .ret)))
def r147 : List XR := [.tmp 4]
theorem fn147 : FnX Tryz.prog 147 EFF 17 x147 r147 := ⟨_, Tryz.func147, by kernel_rfl, by kernel_rfl, by kernel_rfl, by kernel_rfl⟩
-- almshouse/adlog.Save (2 parameters)
def x148 : XC := (.seq (.tree (.seq ⟨some 3, none, (.box (.tmp 1))⟩
  (.seq ⟨some 4, none, (.ofA (.mv (.cst (.v (.int .i64 0)))))⟩
  .done)))
 (.seq (.seq (.tree (.seq ⟨some 10, none, (.ofA (.mv (.tmp 0)))⟩
  (.seq ⟨some 11, none, (.ofA (.eqn false 1 (.tmp 10) (.cst (.v (.pointer none)))))⟩
  .done)))
 (.cond (.tmp 11)
 (.seq (.tree (.seq ⟨some 4, none, (.ofA (.mv (.cst (.v (.int .i64 1)))))⟩
  .done))
 .ret)
 .skip))
 (.seq (.tree (.seq ⟨some 13, none, (.ofA (.mv (.tmp 0)))⟩
  (.seq ⟨some 14, none, (.call (.cst (.fn 154 [])) [(.tmp 13)])⟩
  (.seq ⟨some 12, none, (.ofA (.mv (.tmp 14)))⟩
  (.seq ⟨some 15, none, (.ofA (.extract 0 (.tmp 12)))⟩
  (.seq ⟨some 16, none, (.ofA (.extract 1 (.tmp 12)))⟩
  (.seq ⟨some 5, none, (.alloc [(.v (.int .i64 0)), (.v (.int .i64 0)), (.v (.bool false)), (.v (.int .i64 0)), (.v (.int .i64 0)), (.v (.int .i64 0)), (.v (.slice none 0 0)), (.v (.bool false)), (.v (.int .i64 0)), (.v (.int .i64 0)), (.v (.int .i64 0)), (.v (.slice none 0 0)), (.v (.bool false)), (.v (.int .i64 0)), (.v (.int .i64 0)), (.v (.int .i64 0)), (.v (.slice none 0 0)), (.v (.bool false)), (.v (.int .i64 0)), (.v (.int .i64 0)), (.v (.int .i64 0)), (.v (.slice none 0 0)), (.v (.int .i64 0)), (.v (.bool false))])⟩
  (.seq ⟨none, none, (.store 24 (.tmp 5) (.tmp 15))⟩
  (.seq ⟨some 6, none, (.ofA (.mv (.tmp 16)))⟩
  .done)))))))))
 (.seq (.seq (.tree (.seq ⟨some 17, none, (.ofA (.mv (.tmp 6)))⟩
  (.seq ⟨some 18, none, (.ofA (.bin .neq (.tmp 17) (.cst (.v (.int .i64 0)))))⟩
  .done)))
 (.cond (.tmp 18)
 (.seq (.tree (.seq ⟨some 19, none, (.ofA (.mv (.tmp 6)))⟩
  (.seq ⟨some 4, none, (.ofA (.mv (.tmp 19)))⟩
  .done)))
 .ret)
 .skip))
 (.seq (.tree (.take ⟨some 21, none, (.ofA (.load (some 22) (.tmp 3)))⟩
  (.take ⟨some 22, none, (.ofA (.mv (.tmp 0)))⟩
  (.take ⟨some 24, none, (.ofA (.mv (.tmp 0)))⟩
  (.act true [(⟨some 23, none, (.call (.cst (.fn 130 [])) [(.tmp 22)])⟩,
 (.act true [(⟨some 25, none, (.call (.cst (.fn 54 [])) [(.tmp 24)])⟩,
 (.take ⟨some 26, none, (.ofA (.field 3 none (.tmp 25)))⟩
  (.act true [(⟨some 27, none, (.call (.cst (.fn 198 [])) [(.tmp 21), (.tmp 23), (.tmp 26)])⟩,
 (.take ⟨some 20, none, (.ofA (.mv (.tmp 27)))⟩
  (.take ⟨some 28, none, (.ofA (.extract 0 (.tmp 20)))⟩
  (.take ⟨some 29, none, (.ofA (.extract 1 (.tmp 20)))⟩
  (.take ⟨some 7, none, (.ofA (.mv (.tmp 28)))⟩
  (.take ⟨some 6, none, (.ofA (.mv (.tmp 29)))⟩
  .done))))))])))]))])))))
 (.seq (.block 0 (.seq (.tree (.seq ⟨some 31, none, (.ofA (.mv (.tmp 6)))⟩
  (.seq ⟨some 32, none, (.ofA (.bin .neq (.tmp 31) (.cst (.v (.int .i64 0)))))⟩
  (.seq ⟨some 30, none, (.ofA (.mv (.tmp 32)))⟩
  .done))))
 (.cond (.tmp 30)
 (.seq (.tree (.seq ⟨some 33, none, (.ofA (.mv (.tmp 6)))⟩
  (.seq ⟨some 4, none, (.ofA (.mv (.tmp 33)))⟩
  .done)))
 .ret)
 (.seq (.tree (.seq ⟨some 35, none, (.ofA (.faddr 0 (.tmp 3)))⟩
  (.seq ⟨some 36, none, (.ofA (.load none (.tmp 35)))⟩
  (.seq ⟨some 37, none, (.ofA (.faddr 0 (.tmp 5)))⟩
  (.seq ⟨some 38, none, (.ofA (.faddr 0 (.tmp 37)))⟩
  (.seq ⟨some 39, none, (.ofA (.load none (.tmp 38)))⟩
  (.seq ⟨some 40, none, (.ofA (.bin .leq (.tmp 36) (.tmp 39)))⟩
  (.seq ⟨some 34, none, (.ofA (.mv (.tmp 40)))⟩
  .done))))))))
 (.cond (.tmp 34)
 (.seq (.tree (.seq ⟨some 4, none, (.ofA (.mv (.cst (.v (.int .i64 2)))))⟩
  .done))
 .ret)
 .skip)))))
 (.seq (.tree (.seq ⟨some 42, none, (.ofA (.mv (.tmp 0)))⟩
  (.seq ⟨some 43, none, (.ofA (.faddr 22 (.tmp 5)))⟩
  (.seq ⟨some 44, none, (.ofA (.load none (.tmp 43)))⟩
  (.seq ⟨some 45, none, (.call (.cst (.fn 199 [])) [(.tmp 42), (.tmp 44)])⟩
  (.seq ⟨some 41, none, (.ofA (.mv (.tmp 45)))⟩
  (.seq ⟨some 46, none, (.ofA (.extract 0 (.tmp 41)))⟩
  (.seq ⟨some 47, none, (.ofA (.extract 1 (.tmp 41)))⟩
  (.seq ⟨some 48, none, (.ofA (.extract 2 (.tmp 41)))⟩
  (.seq ⟨some 8, none, (.ofA (.mv (.tmp 46)))⟩
  (.seq ⟨some 9, none, (.ofA (.mv (.tmp 47)))⟩
  (.seq ⟨some 6, none, (.ofA (.mv (.tmp 48)))⟩
  .done))))))))))))
 (.seq (.seq (.tree (.seq ⟨some 49, none, (.ofA (.mv (.tmp 6)))⟩
  (.seq ⟨some 50, none, (.ofA (.bin .neq (.tmp 49) (.cst (.v (.int .i64 0)))))⟩
  .done)))
 (.cond (.tmp 50)
 (.seq (.tree (.seq ⟨some 51, none, (.ofA (.mv (.tmp 6)))⟩
  (.seq ⟨some 4, none, (.ofA (.mv (.tmp 51)))⟩
  .done)))
 .ret)
 .skip))
 (.seq (.tree (.seq ⟨some 52, none, (.ofA (.mv (.tmp 0)))⟩
  (.seq ⟨some 53, none, (.ofA (.mv (.tmp 8)))⟩
  (.seq ⟨some 54, none, (.ofA (.mv (.tmp 9)))⟩
  (.seq ⟨some 55, none, (.ofA (.mv (.tmp 7)))⟩
  (.seq ⟨some 56, none, (.ofA (.b2s (.tmp 55)))⟩
  (.seq ⟨some 57, none, (.call (.cst (.fn 179 [])) [(.tmp 52), (.cst (.v (.int .i64 4))), (.tmp 53), (.tmp 54), (.cst (.v (.slice none 0 0))), (.tmp 56)])⟩
  (.seq ⟨some 4, none, (.ofA (.mv (.tmp 57)))⟩
  .done))))))))
 .ret)))))))))
def r148 : List XR := [.tmp 4]
theorem fn148 : FnX Tryz.prog 148 EFF 58 x148 r148 := ⟨_, Tryz.func148, by kernel_rfl, by kernel_rfl, by kernel_rfl, by kernel_rfl⟩
-- almshouse/ledger.within (3 parameters)
def x151 : XC := (.seq (.tree (.seq ⟨some 6, none, (.ofA (.mv (.cst (.v (.bool false)))))⟩
  .done))
 (.seq (.tree (.seq ⟨some 7, none, (.ofA (.mv (.tmp 0)))⟩
  (.seq ⟨some 8, none, (.ofA (.mv (.tmp 1)))⟩
  (.seq ⟨some 9, none, (.ofA (.bin .geq (.tmp 7) (.tmp 8)))⟩
  (.seq ⟨some 10, none, (.ofA (.mv (.tmp 9)))⟩
  (.seq ⟨some 11, some (10, true), (.ofA (.mv (.tmp 0)))⟩
  (.seq ⟨some 12, some (10, true), (.ofA (.mv (.tmp 2)))⟩
  (.seq ⟨some 13, some (10, true), (.ofA (.bin .leq (.tmp 11) (.tmp 12)))⟩
  (.seq ⟨some 14, none, (.ofA (.pick (.tmp 10) (.tmp 13) (.cst (.v (.bool false)))))⟩
  (.seq ⟨some 6, none, (.ofA (.mv (.tmp 14)))⟩
  .done))))))))))
 .ret))
def r151 : List XR := [.tmp 6]
theorem fn151 : FnX Tryz.prog 151 EFF 15 x151 r151 := ⟨_, Tryz.func151, by kernel_rfl, by kernel_rfl, by kernel_rfl, by kernel_rfl⟩
-- almshouse/queue.Check (1 parameters)
def x153 : XC := (.seq (.tree (.seq ⟨some 1, none, (.box (.tmp 0))⟩
  (.seq ⟨some 2, none, (.ofA (.mv (.cst (.v (.int .i64 0)))))⟩
  .done)))
 (.seq (.seq (.tree (.seq ⟨some 3, none, (.ofA (.faddr 0 (.tmp 1)))⟩
  (.seq ⟨some 4, none, (.ofA (.load none (.tmp 3)))⟩
  .done)))
 (.block 0 (.seq (.tree (.seq ⟨some 6, none, (.ofA (.bin .eql (.tmp 4) (.cst (.v (.int .i64 2)))))⟩
  (.seq ⟨some 5, none, (.ofA (.mv (.tmp 6)))⟩
  .done)))
 (.cond (.tmp 5)
 (.seq (.tree (.seq ⟨some 2, none, (.ofA (.mv (.cst (.v (.int .i64 0)))))⟩
  .done))
 .ret)
 (.seq (.seq (.tree (.seq ⟨some 8, none, (.ofA (.bin .eql (.tmp 4) (.cst (.v (.int .i64 1)))))⟩
  (.seq ⟨some 7, none, (.ofA (.mv (.tmp 8)))⟩
  .done)))
 (.cond (.tmp 7)
 .skip
 (.tree (.seq ⟨some 9, none, (.ofA (.bin .eql (.tmp 4) (.cst (.v (.int .i64 3)))))⟩
  (.seq ⟨some 7, none, (.ofA (.mv (.tmp 9)))⟩
  .done)))))
 (.cond (.tmp 7)
 (.seq (.tree (.seq ⟨some 10, none, (.ofA (.faddr 2 (.tmp 1)))⟩
  (.seq ⟨some 11, none, (.ofA (.load none (.tmp 10)))⟩
  (.seq ⟨some 12, none, (.ofA (.bin .eql (.tmp 11) (.cst (.v (.string ⟨#[]⟩)))))⟩
  .done))))
 (.cond (.tmp 12)
 (.seq (.tree (.seq ⟨some 2, none, (.ofA (.mv (.cst (.v (.int .i64 0)))))⟩
  .done))
 .ret)
 .skip))
 (.seq (.tree (.seq ⟨some 14, none, (.ofA (.bin .eql (.tmp 4) (.cst (.v (.int .i64 4)))))⟩
  (.seq ⟨some 13, none, (.ofA (.mv (.tmp 14)))⟩
  .done)))
 (.cond (.tmp 13)
 (.seq (.tree (.seq ⟨some 15, none, (.ofA (.faddr 2 (.tmp 1)))⟩
  (.seq ⟨some 16, none, (.ofA (.load none (.tmp 15)))⟩
  (.seq ⟨some 17, none, (.ofA (.bin .eql (.tmp 16) (.cst (.v (.string ⟨#[]⟩)))))⟩
  (.seq ⟨some 18, none, (.ofA (.mv (.tmp 17)))⟩
  (.seq ⟨some 19, some (18, true), (.ofA (.faddr 1 (.tmp 1)))⟩
  (.seq ⟨some 20, some (18, true), (.ofA (.load none (.tmp 19)))⟩
  (.seq ⟨some 21, some (18, true), (.ofA (.bin .eql (.tmp 20) (.cst (.v (.int .i64 0)))))⟩
  (.seq ⟨some 22, none, (.ofA (.pick (.tmp 18) (.tmp 21) (.cst (.v (.bool false)))))⟩
  .done)))))))))
 (.cond (.tmp 22)
 (.seq (.tree (.seq ⟨some 2, none, (.ofA (.mv (.cst (.v (.int .i64 0)))))⟩
  .done))
 .ret)
 .skip))
 .skip))))))))
 (.seq (.tree (.seq ⟨some 2, none, (.ofA (.mv (.cst (.v (.int .i64 1)))))⟩
  .done))
 .ret)))
def r153 : List XR := [.tmp 2]
theorem fn153 : FnX Tryz.prog 153 EFF 23 x153 r153 := ⟨_, Tryz.func153, by kernel_rfl, by kernel_rfl, by kernel_rfl, by kernel_rfl⟩
-- almshouse/adlog.find (1 parameters)
def x154 : XC := (.seq (.tree (.seq ⟨some 2, none, (.alloc [(.v (.int .i64 0)), (.v (.int .i64 0)), (.v (.bool false)), (.v (.int .i64 0)), (.v (.int .i64 0)), (.v (.int .i64 0)), (.v (.slice none 0 0)), (.v (.bool false)), (.v (.int .i64 0)), (.v (.int .i64 0)), (.v (.int .i64 0)), (.v (.slice none 0 0)), (.v (.bool false)), (.v (.int .i64 0)), (.v (.int .i64 0)), (.v (.int .i64 0)), (.v (.slice none 0 0)), (.v (.bool false)), (.v (.int .i64 0)), (.v (.int .i64 0)), (.v (.int .i64 0)), (.v (.slice none 0 0)), (.v (.int .i64 0)), (.v (.bool false))])⟩
  (.seq ⟨some 3, none, (.ofA (.mv (.cst (.v (.int .i64 0)))))⟩
  .done)))
 (.seq (.tree (.seq ⟨some 4, none, (.alloc [(.v (.int .i64 0)), (.v (.int .i64 0)), (.v (.bool false)), (.v (.int .i64 0)), (.v (.int .i64 0)), (.v (.int .i64 0)), (.v (.slice none 0 0)), (.v (.bool false)), (.v (.int .i64 0)), (.v (.int .i64 0)), (.v (.int .i64 0)), (.v (.slice none 0 0)), (.v (.bool false)), (.v (.int .i64 0)), (.v (.int .i64 0)), (.v (.int .i64 0)), (.v (.slice none 0 0)), (.v (.bool false)), (.v (.int .i64 0)), (.v (.int .i64 0)), (.v (.int .i64 0)), (.v (.slice none 0 0)), (.v (.int .i64 0)), (.v (.bool false))])⟩
  .done))
 (.seq (.tree (.seq ⟨some 12, none, (.ofA (.mv (.tmp 0)))⟩
  (.seq ⟨some 13, none, (.call (.cst (.fn 54 [])) [(.tmp 12)])⟩
  (.seq ⟨some 14, none, (.ofA (.field 3 none (.tmp 13)))⟩
  (.seq ⟨some 5, none, (.ofA (.mv (.tmp 14)))⟩
  .done)))))
 (.seq (.seq (.tree (.seq ⟨some 15, none, (.ofA (.mv (.cst (.v (.int .i64 0)))))⟩
  .done))
 (.block 0 (.loop (.seq (.tree (.seq ⟨some 16, none, (.ofA (.bin .lss (.tmp 15) (.cst (.v (.int .i64 2)))))⟩
  .done))
 (.seq (.cond (.tmp 16)
 .skip
 (.exit 0))
 (.seq (.block 1 (.seq (.tree (.seq ⟨some 17, none, (.ofA (.mv (.tmp 15)))⟩
  (.seq ⟨some 6, none, (.ofA (.mv (.tmp 17)))⟩
  .done)))
 (.seq (.tree (.seq ⟨some 18, none, (.ofA (.mv (.tmp 5)))⟩
  (.seq ⟨some 19, none, (.ofA (.mv (.cst (.v (.int .i64 0)))))⟩
  .done)))
 (.block 2 (.loop (.seq (.tree (.seq ⟨some 20, none, (.ofA (.bin .lss (.tmp 19) (.tmp 18)))⟩
  .done))
 (.seq (.cond (.tmp 20)
 .skip
 (.exit 2))
 (.seq (.block 3 (.seq (.tree (.seq ⟨some 21, none, (.ofA (.mv (.tmp 19)))⟩
  (.seq ⟨some 7, none, (.ofA (.mv (.tmp 21)))⟩
  .done)))
 (.seq (.tree (.seq ⟨some 23, none, (.ofA (.mv (.tmp 0)))⟩
  (.seq ⟨some 24, none, (.ofA (.mv (.tmp 6)))⟩
  (.seq ⟨some 25, none, (.ofA (.mv (.tmp 7)))⟩
  (.seq ⟨some 26, none, (.call (.cst (.fn 119 [])) [(.tmp 23), (.tmp 24), (.tmp 25)])⟩
  (.seq ⟨some 22, none, (.ofA (.mv (.tmp 26)))⟩
  (.seq ⟨some 27, none, (.ofA (.extract 0 (.tmp 22)))⟩
  (.seq ⟨some 28, none, (.ofA (.extract 1 (.tmp 22)))⟩
  (.seq ⟨some 29, none, (.ofA (.extract 2 (.tmp 22)))⟩
  (.seq ⟨some 8, none, (.ofA (.mv (.tmp 27)))⟩
  (.seq ⟨some 9, none, (.ofA (.mv (.tmp 28)))⟩
  (.seq ⟨some 10, none, (.ofA (.mv (.tmp 29)))⟩
  .done))))))))))))
 (.seq (.seq (.tree (.seq ⟨some 30, none, (.ofA (.mv (.tmp 10)))⟩
  (.seq ⟨some 31, none, (.ofA (.bin .eql (.tmp 30) (.cst (.v (.int .i64 12)))))⟩
  .done)))
 (.cond (.tmp 31)
 (.seq (.tree (.seq ⟨some 32, none, (.build [(.v (.int .i64 0)), (.v (.int .i64 0)), (.v (.bool false)), (.v (.int .i64 0)), (.v (.int .i64 0)), (.v (.int .i64 0)), (.v (.slice none 0 0)), (.v (.bool false)), (.v (.int .i64 0)), (.v (.int .i64 0)), (.v (.int .i64 0)), (.v (.slice none 0 0)), (.v (.bool false)), (.v (.int .i64 0)), (.v (.int .i64 0)), (.v (.int .i64 0)), (.v (.slice none 0 0)), (.v (.bool false)), (.v (.int .i64 0)), (.v (.int .i64 0)), (.v (.int .i64 0)), (.v (.slice none 0 0)), (.v (.int .i64 0)), (.v (.bool false))] [])⟩
  (.seq ⟨some 33, none, (.ofA (.mv (.tmp 10)))⟩
  (.seq ⟨none, none, (.store 24 (.tmp 2) (.tmp 32))⟩
  (.seq ⟨some 3, none, (.ofA (.mv (.tmp 33)))⟩
  .done)))))
 .ret)
 .skip))
 (.seq (.seq (.tree (.seq ⟨some 34, none, (.ofA (.mv (.tmp 10)))⟩
  (.seq ⟨some 35, none, (.ofA (.bin .neq (.tmp 34) (.cst (.v (.int .i64 0)))))⟩
  .done)))
 (.cond (.tmp 35)
 (.exit 3)
 .skip))
 (.seq (.tree (.seq ⟨some 37, none, (.ofA (.mv (.tmp 9)))⟩
  (.seq ⟨some 38, none, (.s2b (.tmp 37))⟩
  (.seq ⟨some 39, none, (.ofA (.mv (.tmp 0)))⟩
  (.seq ⟨some 40, none, (.call (.cst (.fn 130 [])) [(.tmp 39)])⟩
  (.seq ⟨some 41, none, (.ofA (.mv (.tmp 5)))⟩
  (.seq ⟨some 42, none, (.call (.cst (.fn 200 [])) [(.tmp 38), (.tmp 40), (.tmp 41)])⟩
  (.seq ⟨some 36, none, (.ofA (.mv (.tmp 42)))⟩
  (.seq ⟨some 43, none, (.ofA (.extract 0 (.tmp 36)))⟩
  (.seq ⟨some 44, none, (.ofA (.extract 1 (.tmp 36)))⟩
  (.seq ⟨some 11, none, (.alloc [(.v (.int .i64 0)), (.v (.int .i64 0)), (.v (.bool false)), (.v (.int .i64 0)), (.v (.int .i64 0)), (.v (.int .i64 0)), (.v (.slice none 0 0)), (.v (.bool false)), (.v (.int .i64 0)), (.v (.int .i64 0)), (.v (.int .i64 0)), (.v (.slice none 0 0)), (.v (.bool false)), (.v (.int .i64 0)), (.v (.int .i64 0)), (.v (.int .i64 0)), (.v (.slice none 0 0)), (.v (.bool false)), (.v (.int .i64 0)), (.v (.int .i64 0)), (.v (.int .i64 0)), (.v (.slice none 0 0))])⟩
  (.seq ⟨none, none, (.store 22 (.tmp 11) (.tmp 43))⟩
  (.seq ⟨some 10, none, (.ofA (.mv (.tmp 44)))⟩
  .done)))))))))))))
 (.seq (.tree (.seq ⟨some 45, none, (.ofA (.mv (.tmp 10)))⟩
  (.seq ⟨some 46, none, (.ofA (.bin .eql (.tmp 45) (.cst (.v (.int .i64 0)))))⟩
  (.seq ⟨some 47, none, (.ofA (.mv (.tmp 46)))⟩
  (.seq ⟨some 48, some (47, true), (.ofA (.faddr 23 (.tmp 4)))⟩
  (.seq ⟨some 49, some (47, true), (.ofA (.load none (.tmp 48)))⟩
  (.seq ⟨some 50, some (47, true), (.ofA (.un .not (.tmp 49)))⟩
  (.seq ⟨some 51, some (47, true), (.ofA (.mv (.tmp 50)))⟩
  (.seq ⟨some 52, some (51, false), (.ofA (.faddr 0 (.tmp 11)))⟩
  (.seq ⟨some 53, some (51, false), (.ofA (.load none (.tmp 52)))⟩
  (.seq ⟨some 54, some (51, false), (.ofA (.faddr 0 (.tmp 4)))⟩
  (.seq ⟨some 55, some (51, false), (.ofA (.faddr 0 (.tmp 54)))⟩
  (.seq ⟨some 56, some (51, false), (.ofA (.load none (.tmp 55)))⟩
  (.seq ⟨some 57, some (51, false), (.ofA (.bin .gtr (.tmp 53) (.tmp 56)))⟩
  (.seq ⟨some 58, some (47, true), (.ofA (.pick (.tmp 51) (.cst (.v (.bool true))) (.tmp 57)))⟩
  (.seq ⟨some 59, none, (.ofA (.pick (.tmp 47) (.tmp 58) (.cst (.v (.bool false)))))⟩
  .done))))))))))))))))
 (.cond (.tmp 59)
 (.tree (.seq ⟨some 60, none, (.ofA (.load (some 22) (.tmp 11)))⟩
  (.seq ⟨some 61, none, (.ofA (.mv (.tmp 6)))⟩
  (.seq ⟨some 62, none, (.build [(.v (.int .i64 0)), (.v (.int .i64 0)), (.v (.bool false)), (.v (.int .i64 0)), (.v (.int .i64 0)), (.v (.int .i64 0)), (.v (.slice none 0 0)), (.v (.bool false)), (.v (.int .i64 0)), (.v (.int .i64 0)), (.v (.int .i64 0)), (.v (.slice none 0 0)), (.v (.bool false)), (.v (.int .i64 0)), (.v (.int .i64 0)), (.v (.int .i64 0)), (.v (.slice none 0 0)), (.v (.bool false)), (.v (.int .i64 0)), (.v (.int .i64 0)), (.v (.int .i64 0)), (.v (.slice none 0 0)), (.v (.int .i64 0)), (.v (.bool false))] [(0, 22, (.tmp 60)), (22, 1, (.tmp 61)), (23, 1, (.cst (.v (.bool true))))])⟩
  (.seq ⟨none, none, (.store 24 (.tmp 4) (.tmp 62))⟩
  .done)))))
 .skip))))))))
 (.tree (.seq ⟨some 63, none, (.ofA (.bin .add (.tmp 19) (.cst (.v (.int .i64 1)))))⟩
  (.seq ⟨some 19, none, (.ofA (.mv (.tmp 63)))⟩
  .done)))))))))))
 (.tree (.seq ⟨some 64, none, (.ofA (.bin .add (.tmp 15) (.cst (.v (.int .i64 1)))))⟩
  (.seq ⟨some 15, none, (.ofA (.mv (.tmp 64)))⟩
  .done)))))))))
 (.seq (.tree (.seq ⟨some 65, none, (.ofA (.load (some 24) (.tmp 4)))⟩
  (.seq ⟨none, none, (.store 24 (.tmp 2) (.tmp 65))⟩
  (.seq ⟨some 3, none, (.ofA (.mv (.cst (.v (.int .i64 0)))))⟩
  .done))))
 .ret)))))
def r154 : List XR := [.cell 2 (some 24), .tmp 3]
theorem fn154 : FnX Tryz.prog 154 EFF 66 x154 r154 := ⟨_, Tryz.func154, by kernel_rfl, by kernel_rfl, by kernel_rfl, by kernel_rfl⟩
-- (*sync/atomic.Bool).Load (1 parameters)
def x156 : XC := (.seq (.tree (.seq ⟨some 2, none, (.ofA (.mv (.cst (.v (.bool false)))))⟩
  .done))
 (.seq (.tree (.seq ⟨some 3, none, (.ofA (.mv (.tmp 0)))⟩
  (.seq ⟨some 4, none, (.ofA (.nilc (.tmp 3)))⟩
  (.seq ⟨some 5, none, (.ofA (.faddr 0 (.tmp 4)))⟩
  (.seq ⟨some 6, none, (.call (.cst (.fn 206 [])) [(.tmp 5)])⟩
  (.seq ⟨some 7, none, (.ofA (.bin .neq (.tmp 6) (.cst (.v (.int .u32 0)))))⟩
  (.seq ⟨some 2, none, (.ofA (.mv (.tmp 7)))⟩
  .done)))))))
 .ret))
def r156 : List XR := [.tmp 2]
theorem fn156 : FnX Tryz.prog 156 EFF 8 x156 r156 := ⟨_, Tryz.func156, by kernel_rfl, by kernel_rfl, by kernel_rfl, by kernel_rfl⟩
-- slices.Clone[[]almshouse/api.Done,almshouse/api.Done] (1 parameters)
def x157 : XC := (.seq (.tree (.seq ⟨some 2, none, (.ofA (.mv (.cst (.v (.slice none 0 0)))))⟩
  .done))
 (.seq (.seq (.tree (.seq ⟨some 3, none, (.ofA (.mv (.tmp 0)))⟩
  (.seq ⟨some 4, none, (.ofA (.eqn false 2 (.tmp 3) (.cst (.v (.slice none 0 0)))))⟩
  .done)))
 (.cond (.tmp 4)
 (.seq (.tree (.seq ⟨some 2, none, (.ofA (.mv (.cst (.v (.slice none 0 0)))))⟩
  .done))
 .ret)
 .skip))
 (.seq (.tree (.seq ⟨some 5, none, (.buildSl 3 0 [] [])⟩
  (.seq ⟨some 6, none, (.ofA (.mv (.tmp 0)))⟩
  (.seq ⟨some 7, none, (.app 3 32 (.tmp 5) (.tmp 6))⟩
  (.seq ⟨some 2, none, (.ofA (.mv (.tmp 7)))⟩
  .done)))))
 .ret)))
def r157 : List XR := [.tmp 2]
theorem fn157 : FnX Tryz.prog 157 EFF 8 x157 r157 := ⟨_, Tryz.func157, by kernel_rfl, by kernel_rfl, by kernel_rfl, by kernel_rfl⟩
-- almshouse/warden.Run (2 parameters)
def x158 : XC := (.seq (.tree (.seq ⟨some 4, none, (.ofA (.mv (.cst (.v (.slice none 0 0)))))⟩
  .done))
 (.seq (.tree (.seq ⟨some 5, none, (.ofA (.mv (.cst (.v (.slice none 0 0)))))⟩
  .done))
 (.seq (.seq (.tree (.seq ⟨some 8, none, (.ofA (.mv (.tmp 1)))⟩
  (.seq ⟨some 9, none, (.ofA (.len (.tmp 8)))⟩
  (.seq ⟨some 10, none, (.ofA (.mv (.cst (.v (.int .i64 0)))))⟩
  .done))))
 (.block 0 (.loop (.seq (.tree (.seq ⟨some 11, none, (.ofA (.bin .lss (.tmp 10) (.tmp 9)))⟩
  .done))
 (.seq (.cond (.tmp 11)
 .skip
 (.exit 0))
 (.seq (.block 1 (.seq (.tree (.seq ⟨some 12, none, (.ofA (.isl 8 (.tmp 8) (.tmp 10)))⟩
  (.seq ⟨some 13, none, (.ofA (.load (some 8) (.tmp 12)))⟩
  (.seq ⟨some 7, none, (.alloc [(.v (.int .i64 0)), (.v (.int .i64 0)), (.v (.int .i64 0)), (.v (.int .i64 0)), (.v (.int .i64 0)), (.v (.int .i64 0)), (.v (.int .i64 0)), (.v (.string ⟨#[]⟩))])⟩
  (.seq ⟨none, none, (.store 8 (.tmp 7) (.tmp 13))⟩
  .done)))))
 (.tree (.seq ⟨some 14, none, (.ofA (.mv (.tmp 5)))⟩
  (.seq ⟨some 15, none, (.ofA (.mv (.tmp 0)))⟩
  (.seq ⟨some 16, none, (.ofA (.load (some 8) (.tmp 7)))⟩
  (.seq ⟨some 17, none, (.call (.cst (.fn 207 [])) [(.tmp 15), (.tmp 16)])⟩
  (.seq ⟨some 18, none, (.buildSl 1 1 [(.v (.int .i64 0))] [(0, 1, (.tmp 17))])⟩
  (.seq ⟨some 19, none, (.app 1 8 (.tmp 14) (.tmp 18))⟩
  (.seq ⟨some 5, none, (.ofA (.mv (.tmp 19)))⟩
  .done))))))))))
 (.tree (.seq ⟨some 20, none, (.ofA (.bin .add (.tmp 10) (.cst (.v (.int .i64 1)))))⟩
  (.seq ⟨some 10, none, (.ofA (.mv (.tmp 20)))⟩
  .done)))))))))
 (.seq (.tree (.seq ⟨some 21, none, (.ofA (.mv (.tmp 5)))⟩
  (.seq ⟨some 4, none, (.ofA (.mv (.tmp 21)))⟩
  .done)))
 .ret))))
def r158 : List XR := [.tmp 4]
theorem fn158 : FnX Tryz.prog 158 EFF 22 x158 r158 := ⟨_, Tryz.func158, by kernel_rfl, by kernel_rfl, by kernel_rfl, by kernel_rfl⟩
-- almshouse/foreign.visit (2 parameters)
def x159 : XC := (.seq (.tree (.seq ⟨some 10, none, (.ofA (.mv (.tmp 0)))⟩
  (.seq ⟨some 11, none, (.call (.cst (.fn 42 [])) [(.tmp 10)])⟩
  (.seq ⟨some 12, none, (.ofA (.field 2 (some 20) (.tmp 11)))⟩
  (.seq ⟨some 13, none, (.ofA (.mv (.cst (.v (.int .i64 0)))))⟩
  .done)))))
 (.block 0 (.loop (.seq (.tree (.seq ⟨some 14, none, (.ofA (.bin .lss (.tmp 13) (.cst (.v (.int .i64 4)))))⟩
  .done))
 (.seq (.cond (.tmp 14)
 .skip
 (.exit 0))
 (.seq (.block 1 (.seq (.tree (.seq ⟨some 15, none, (.ofA (.mv (.tmp 13)))⟩
  (.seq ⟨some 16, none, (.ofA (.idx 4 5 true (.tmp 12) (.tmp 13)))⟩
  (.seq ⟨some 5, none, (.alloc [(.v (.bool false)), (.v (.int .i64 0)), (.v (.int .i64 0)), (.v (.int .i64 0)), (.v (.slice none 0 0))])⟩
  (.seq ⟨some 4, none, (.ofA (.mv (.tmp 15)))⟩
  (.seq ⟨none, none, (.store 5 (.tmp 5) (.tmp 16))⟩
  .done))))))
 (.seq (.tree (.take ⟨some 18, none, (.ofA (.mv (.tmp 0)))⟩
  (.take ⟨some 20, none, (.ofA (.faddr 4 (.tmp 5)))⟩
  (.take ⟨some 21, none, (.ofA (.load none (.tmp 20)))⟩
  (.act true [(⟨some 19, none, (.call (.cst (.fn 40 [])) [(.tmp 18)])⟩,
 (.act true [(⟨some 22, none, (.call (.cst (.fn 65 [])) [(.tmp 19), (.tmp 21)])⟩,
 (.take ⟨some 17, none, (.ofA (.mv (.tmp 22)))⟩
  (.take ⟨some 23, none, (.ofA (.extract 0 (.tmp 17)))⟩
  (.take ⟨some 24, none, (.ofA (.extract 1 (.tmp 17)))⟩
  (.take ⟨some 6, none, (.ofA (.mv (.tmp 23)))⟩
  (.take ⟨some 7, none, (.ofA (.mv (.tmp 24)))⟩
  .done))))))]))])))))
 (.seq (.seq (.tree (.seq ⟨some 25, none, (.ofA (.mv (.tmp 7)))⟩
  (.seq ⟨some 26, none, (.ofA (.bin .neq (.tmp 25) (.cst (.v (.int .i64 0)))))⟩
  .done)))
 (.cond (.tmp 26)
 (.exit 1)
 .skip))
 (.seq (.tree (.seq ⟨some 27, none, (.ofA (.mv (.tmp 6)))⟩
  (.seq ⟨some 28, none, (.ofA (.len (.tmp 27)))⟩
  (.seq ⟨some 29, none, (.ofA (.mv (.cst (.v (.int .i64 0)))))⟩
  .done))))
 (.block 2 (.loop (.seq (.tree (.seq ⟨some 30, none, (.ofA (.bin .lss (.tmp 29) (.tmp 28)))⟩
  .done))
 (.seq (.cond (.tmp 30)
 .skip
 (.exit 2))
 (.seq (.block 3 (.seq (.tree (.seq ⟨some 31, none, (.ofA (.isl 10 (.tmp 27) (.tmp 29)))⟩
  (.seq ⟨some 32, none, (.ofA (.load (some 10) (.tmp 31)))⟩
  (.seq ⟨some 9, none, (.alloc [(.v (.int .i64 0)), (.v (.int .i64 0)), (.v (.bool false)), (.v (.int .i64 0)), (.v (.int .i64 0)), (.v (.int .i64 0)), (.v (.int .i64 0)), (.v (.int .i64 0)), (.v (.bool false)), (.v (.string ⟨#[]⟩))])⟩
  (.seq ⟨none, none, (.store 10 (.tmp 9) (.tmp 32))⟩
  .done)))))
 (.seq (.tree (.seq ⟨some 33, none, (.ofA (.faddr 2 (.tmp 9)))⟩
  (.seq ⟨some 34, none, (.ofA (.load none (.tmp 33)))⟩
  (.seq ⟨some 35, none, (.ofA (.un .not (.tmp 34)))⟩
  .done))))
 (.cond (.tmp 35)
 (.tree (.take ⟨some 36, none, (.ofA (.mv (.tmp 1)))⟩
  (.take ⟨some 37, none, (.ofA (.mv (.tmp 4)))⟩
  (.take ⟨some 38, none, (.ofA (.load (some 5) (.tmp 5)))⟩
  (.take ⟨some 39, none, (.ofA (.faddr 4 (.tmp 5)))⟩
  (.take ⟨some 40, none, (.ofA (.load none (.tmp 39)))⟩
  (.take ⟨some 41, none, (.ofA (.faddr 0 (.tmp 9)))⟩
  (.take ⟨some 42, none, (.ofA (.load none (.tmp 41)))⟩
  (.take ⟨some 43, none, (.ofA (.isl 1 (.tmp 40) (.tmp 42)))⟩
  (.take ⟨some 44, none, (.ofA (.load none (.tmp 43)))⟩
  (.take ⟨some 45, none, (.ofA (.load (some 10) (.tmp 9)))⟩
  (.alt [false] [(⟨some 46, none, (.call (.tmp 36) [(.tmp 37), (.tmp 38), (.tmp 44), (.tmp 45)])⟩,
 .done)]))))))))))))
 .skip))))
 (.tree (.seq ⟨some 47, none, (.ofA (.bin .add (.tmp 29) (.cst (.v (.int .i64 1)))))⟩
  (.seq ⟨some 29, none, (.ofA (.mv (.tmp 47)))⟩
  .done)))))))))))))
 (.tree (.seq ⟨some 48, none, (.ofA (.bin .add (.tmp 13) (.cst (.v (.int .i64 1)))))⟩
  (.seq ⟨some 13, none, (.ofA (.mv (.tmp 48)))⟩
  .done)))))))))
def r159 : List XR := []
theorem fn159 : FnX Tryz.prog 159 EFF 49 x159 r159 := ⟨_, Tryz.func159, by kernel_rfl, by kernel_rfl, by kernel_rfl, by kernel_rfl⟩
-- almshouse/foreign.Owners$1 (4 parameters)
def x160 : XC := (.seq (.tree (.seq ⟨some 7, none, (.box (.tmp 1))⟩
  (.seq ⟨some 9, none, (.box (.tmp 3))⟩
  .done)))
 (.seq (.tree (.seq ⟨some 10, none, (.ofA (.faddr 9 (.tmp 9)))⟩
  (.seq ⟨some 11, none, (.ofA (.load none (.tmp 10)))⟩
  (.seq ⟨some 12, none, (.ofA (.load none (.tmp 4)))⟩
  (.seq ⟨some 13, none, (.ofA (.bin .eql (.tmp 11) (.tmp 12)))⟩
  (.seq ⟨some 14, none, (.ofA (.mv (.tmp 13)))⟩
  (.seq ⟨some 15, some (14, true), (.ofA (.load none (.tmp 5)))⟩
  (.seq ⟨some 16, some (14, true), (.ofA (.mv (.tmp 0)))⟩
  (.seq ⟨some 17, some (14, true), (.call (.cst (.fn 132 [])) [(.tmp 15), (.tmp 16)])⟩
  (.seq ⟨some 18, some (14, true), (.ofA (.un .not (.tmp 17)))⟩
  (.seq ⟨some 19, none, (.ofA (.pick (.tmp 14) (.tmp 18) (.cst (.v (.bool false)))))⟩
  .done)))))))))))
 (.cond (.tmp 19)
 (.tree (.seq ⟨some 20, none, (.ofA (.load none (.tmp 5)))⟩
  (.seq ⟨some 21, none, (.ofA (.mv (.tmp 0)))⟩
  (.seq ⟨some 22, none, (.buildSl 1 1 [(.v (.int .i64 0))] [(0, 1, (.tmp 21))])⟩
  (.seq ⟨some 23, none, (.app 1 8 (.tmp 20) (.tmp 22))⟩
  (.seq ⟨none, none, (.store 1 (.tmp 5) (.tmp 23))⟩
  .done))))))
 .skip)))
def r160 : List XR := []
theorem fn160 : FnX Tryz.prog 160 EFF 24 x160 r160 := ⟨_, Tryz.func160, by kernel_rfl, by kernel_rfl, by kernel_rfl, by kernel_rfl⟩
-- almshouse/foreign.Stray$1 (4 parameters)
def x161 : XC := (.seq (.tree (.seq ⟨some 7, none, (.box (.tmp 1))⟩
  (.seq ⟨some 9, none, (.box (.tmp 3))⟩
  .done)))
 (.seq (.tree (.seq ⟨some 10, none, (.ofA (.load (some 10) (.tmp 9)))⟩
  (.seq ⟨some 11, none, (.ofA (.mv (.tmp 0)))⟩
  (.seq ⟨some 12, none, (.ofA (.faddr 1 (.tmp 7)))⟩
  (.seq ⟨some 13, none, (.ofA (.load none (.tmp 12)))⟩
  (.seq ⟨some 14, none, (.call (.cst (.fn 162 [])) [(.tmp 10), (.tmp 11), (.tmp 13)])⟩
  (.seq ⟨some 15, none, (.ofA (.un .not (.tmp 14)))⟩
  .done)))))))
 (.cond (.tmp 15)
 (.tree (.seq ⟨some 16, none, (.ofA (.load none (.tmp 4)))⟩
  (.seq ⟨some 17, none, (.ofA (.mv (.tmp 2)))⟩
  (.seq ⟨some 18, none, (.ofA (.faddr 3 (.tmp 5)))⟩
  (.seq ⟨some 19, none, (.ofA (.load none (.tmp 18)))⟩
  (.seq ⟨some 20, none, (.ofA (.bin .mul (.tmp 17) (.tmp 19)))⟩
  (.seq ⟨some 21, none, (.ofA (.faddr 1 (.tmp 9)))⟩
  (.seq ⟨some 22, none, (.ofA (.load none (.tmp 21)))⟩
  (.seq ⟨some 23, none, (.ofA (.bin .add (.tmp 20) (.tmp 22)))⟩
  (.seq ⟨some 24, none, (.buildSl 1 1 [(.v (.int .i64 0))] [(0, 1, (.tmp 23))])⟩
  (.seq ⟨some 25, none, (.app 1 8 (.tmp 16) (.tmp 24))⟩
  (.seq ⟨none, none, (.store 1 (.tmp 4) (.tmp 25))⟩
  .done))))))))))))
 .skip)))
def r161 : List XR := []
theorem fn161 : FnX Tryz.prog 161 EFF 26 x161 r161 := ⟨_, Tryz.func161, by kernel_rfl, by kernel_rfl, by kernel_rfl, by kernel_rfl⟩
-- almshouse/scan.Mine (3 parameters)
def x162 : XC := (.seq (.tree (.seq ⟨some 3, none, (.box (.tmp 0))⟩
  (.seq ⟨some 6, none, (.ofA (.mv (.cst (.v (.bool false)))))⟩
  .done)))
 (.seq (.tree (.seq ⟨some 7, none, (.ofA (.faddr 2 (.tmp 3)))⟩
  (.seq ⟨some 8, none, (.ofA (.load none (.tmp 7)))⟩
  (.seq ⟨some 9, none, (.ofA (.un .not (.tmp 8)))⟩
  (.seq ⟨some 10, none, (.ofA (.mv (.tmp 9)))⟩
  (.seq ⟨some 11, some (10, true), (.ofA (.faddr 3 (.tmp 3)))⟩
  (.seq ⟨some 12, some (10, true), (.ofA (.faddr 0 (.tmp 11)))⟩
  (.seq ⟨some 13, some (10, true), (.ofA (.load none (.tmp 12)))⟩
  (.seq ⟨some 14, some (10, true), (.ofA (.mv (.tmp 1)))⟩
  (.seq ⟨some 15, some (10, true), (.ofA (.bin .eql (.tmp 13) (.tmp 14)))⟩
  (.seq ⟨some 16, none, (.ofA (.pick (.tmp 10) (.tmp 15) (.cst (.v (.bool false)))))⟩
  (.seq ⟨some 17, none, (.ofA (.mv (.tmp 16)))⟩
  (.seq ⟨some 18, some (17, true), (.ofA (.faddr 3 (.tmp 3)))⟩
  (.seq ⟨some 19, some (17, true), (.ofA (.faddr 1 (.tmp 18)))⟩
  (.seq ⟨some 20, some (17, true), (.ofA (.load none (.tmp 19)))⟩
  (.seq ⟨some 21, some (17, true), (.ofA (.mv (.tmp 2)))⟩
  (.seq ⟨some 22, some (17, true), (.ofA (.bin .eql (.tmp 20) (.tmp 21)))⟩
  (.seq ⟨some 23, none, (.ofA (.pick (.tmp 17) (.tmp 22) (.cst (.v (.bool false)))))⟩
  (.seq ⟨some 6, none, (.ofA (.mv (.tmp 23)))⟩
  .done)))))))))))))))))))
 .ret))
def r162 : List XR := [.tmp 6]
theorem fn162 : FnX Tryz.prog 162 EFF 24 x162 r162 := ⟨_, Tryz.func162, by kernel_rfl, by kernel_rfl, by kernel_rfl, by kernel_rfl⟩
-- slices.IndexFunc[[]almshouse/api.Step,almshouse/api.Step] (2 parameters)
def x164 : XC := (.seq (.tree (.seq ⟨some 4, none, (.ofA (.mv (.cst (.v (.int .i64 0)))))⟩
  .done))
 (.seq (.seq (.tree (.seq ⟨some 6, none, (.ofA (.mv (.tmp 0)))⟩
  (.seq ⟨some 7, none, (.ofA (.len (.tmp 6)))⟩
  (.seq ⟨some 8, none, (.ofA (.mv (.cst (.v (.int .i64 0)))))⟩
  .done))))
 (.block 0 (.loop (.seq (.tree (.seq ⟨some 9, none, (.ofA (.bin .lss (.tmp 8) (.tmp 7)))⟩
  .done))
 (.seq (.cond (.tmp 9)
 .skip
 (.exit 0))
 (.seq (.block 1 (.seq (.tree (.seq ⟨some 10, none, (.ofA (.mv (.tmp 8)))⟩
  (.seq ⟨some 5, none, (.ofA (.mv (.tmp 10)))⟩
  .done)))
 (.seq (.tree (.seq ⟨some 11, none, (.ofA (.mv (.tmp 1)))⟩
  (.seq ⟨some 12, none, (.ofA (.mv (.tmp 0)))⟩
  (.seq ⟨some 13, none, (.ofA (.mv (.tmp 5)))⟩
  (.seq ⟨some 14, none, (.ofA (.isl 8 (.tmp 12) (.tmp 13)))⟩
  (.seq ⟨some 15, none, (.ofA (.load (some 8) (.tmp 14)))⟩
  (.seq ⟨some 16, none, (.call (.tmp 11) [(.tmp 15)])⟩
  .done)))))))
 (.cond (.tmp 16)
 (.seq (.tree (.seq ⟨some 17, none, (.ofA (.mv (.tmp 5)))⟩
  (.seq ⟨some 4, none, (.ofA (.mv (.tmp 17)))⟩
  .done)))
 .ret)
 .skip))))
 (.tree (.seq ⟨some 18, none, (.ofA (.bin .add (.tmp 8) (.cst (.v (.int .i64 1)))))⟩
  (.seq ⟨some 8, none, (.ofA (.mv (.tmp 18)))⟩
  .done)))))))))
 (.seq (.tree (.seq ⟨some 4, none, (.ofA (.mv (.cst (.v (.int .i64 (-1))))))⟩
  .done))
 .ret)))
def r164 : List XR := [.tmp 4]
theorem fn164 : FnX Tryz.prog 164 EFF 19 x164 r164 := ⟨_, Tryz.func164, by kernel_rfl, by kernel_rfl, by kernel_rfl, by kernel_rfl⟩
-- almshouse/geom.Check (1 parameters)
def x166 : XC := (.seq (.tree (.seq ⟨some 1, none, (.box (.tmp 0))⟩
  (.seq ⟨some 2, none, (.ofA (.mv (.cst (.v (.int .i64 0)))))⟩
  .done)))
 (.seq (.tree (.seq ⟨some 6, none, (.ofA (.faddr 0 (.tmp 1)))⟩
  (.seq ⟨some 7, none, (.ofA (.load none (.tmp 6)))⟩
  (.seq ⟨some 8, none, (.ofA (.faddr 1 (.tmp 1)))⟩
  (.seq ⟨some 9, none, (.ofA (.load none (.tmp 8)))⟩
  (.seq ⟨some 10, none, (.ofA (.faddr 2 (.tmp 1)))⟩
  (.seq ⟨some 11, none, (.ofA (.load none (.tmp 10)))⟩
  (.seq ⟨some 12, none, (.ofA (.mx false (.tmp 7) [(.tmp 9), (.tmp 11)]))⟩
  (.seq ⟨some 3, none, (.ofA (.mv (.tmp 12)))⟩
  .done)))))))))
 (.seq (.tree (.seq ⟨some 13, none, (.ofA (.faddr 0 (.tmp 1)))⟩
  (.seq ⟨some 14, none, (.ofA (.load none (.tmp 13)))⟩
  (.seq ⟨some 15, none, (.ofA (.faddr 1 (.tmp 1)))⟩
  (.seq ⟨some 16, none, (.ofA (.load none (.tmp 15)))⟩
  (.seq ⟨some 17, none, (.ofA (.faddr 2 (.tmp 1)))⟩
  (.seq ⟨some 18, none, (.ofA (.load none (.tmp 17)))⟩
  (.seq ⟨some 19, none, (.ofA (.mx true (.tmp 14) [(.tmp 16), (.tmp 18)]))⟩
  (.seq ⟨some 4, none, (.ofA (.mv (.tmp 19)))⟩
  .done)))))))))
 (.seq (.block 0 (.seq (.tree (.seq ⟨some 21, none, (.ofA (.mv (.tmp 3)))⟩
  (.seq ⟨some 22, none, (.ofA (.bin .lss (.tmp 21) (.cst (.v (.int .i64 1)))))⟩
  (.seq ⟨some 23, none, (.ofA (.mv (.tmp 22)))⟩
  (.seq ⟨some 24, some (23, false), (.ofA (.faddr 3 (.tmp 1)))⟩
  (.seq ⟨some 25, some (23, false), (.ofA (.load none (.tmp 24)))⟩
  (.seq ⟨some 26, some (23, false), (.ofA (.bin .lss (.tmp 25) (.cst (.v (.int .i64 2)))))⟩
  (.seq ⟨some 27, none, (.ofA (.pick (.tmp 23) (.cst (.v (.bool true))) (.tmp 26)))⟩
  (.seq ⟨some 20, none, (.ofA (.mv (.tmp 27)))⟩
  .done)))))))))
 (.cond (.tmp 20)
 (.seq (.tree (.seq ⟨some 2, none, (.ofA (.mv (.cst (.v (.int .i64 1)))))⟩
  .done))
 .ret)
 (.seq (.tree (.seq ⟨some 29, none, (.ofA (.mv (.tmp 4)))⟩
  (.seq ⟨some 30, none, (.ofA (.bin .gtr (.tmp 29) (.cst (.v (.int .i64 64)))))⟩
  (.seq ⟨some 31, none, (.ofA (.mv (.tmp 30)))⟩
  (.seq ⟨some 32, some (31, false), (.ofA (.faddr 3 (.tmp 1)))⟩
  (.seq ⟨some 33, some (31, false), (.ofA (.load none (.tmp 32)))⟩
  (.seq ⟨some 34, some (31, false), (.ofA (.bin .gtr (.tmp 33) (.cst (.v (.int .i64 16)))))⟩
  (.seq ⟨some 35, none, (.ofA (.pick (.tmp 31) (.cst (.v (.bool true))) (.tmp 34)))⟩
  (.seq ⟨some 28, none, (.ofA (.mv (.tmp 35)))⟩
  .done)))))))))
 (.cond (.tmp 28)
 (.seq (.tree (.seq ⟨some 2, none, (.ofA (.mv (.cst (.v (.int .i64 4)))))⟩
  .done))
 .ret)
 .skip)))))
 (.seq (.seq (.tree (.seq ⟨some 36, none, (.ofA (.faddr 0 (.tmp 1)))⟩
  (.seq ⟨some 37, none, (.ofA (.load none (.tmp 36)))⟩
  (.seq ⟨some 38, none, (.ofA (.faddr 1 (.tmp 1)))⟩
  (.seq ⟨some 39, none, (.ofA (.load none (.tmp 38)))⟩
  (.seq ⟨some 40, none, (.ofA (.bin .mul (.tmp 37) (.tmp 39)))⟩
  (.seq ⟨some 41, none, (.ofA (.faddr 2 (.tmp 1)))⟩
  (.seq ⟨some 42, none, (.ofA (.load none (.tmp 41)))⟩
  (.seq ⟨some 43, none, (.ofA (.bin .mul (.tmp 40) (.tmp 42)))⟩
  (.seq ⟨some 5, none, (.ofA (.mv (.tmp 43)))⟩
  .done))))))))))
 (.block 1 (.seq (.tree (.seq ⟨some 45, none, (.ofA (.mv (.tmp 5)))⟩
  (.seq ⟨some 46, none, (.ofA (.bin .leq (.tmp 45) (.cst (.v (.int .i64 2)))))⟩
  (.seq ⟨some 44, none, (.ofA (.mv (.tmp 46)))⟩
  .done))))
 (.cond (.tmp 44)
 (.seq (.tree (.seq ⟨some 2, none, (.ofA (.mv (.cst (.v (.int .i64 1)))))⟩
  .done))
 .ret)
 (.seq (.tree (.seq ⟨some 48, none, (.ofA (.mv (.tmp 5)))⟩
  (.seq ⟨some 49, none, (.ofA (.bin .gtr (.tmp 48) (.cst (.v (.int .i64 64)))))⟩
  (.seq ⟨some 47, none, (.ofA (.mv (.tmp 49)))⟩
  .done))))
 (.cond (.tmp 47)
 (.seq (.tree (.seq ⟨some 2, none, (.ofA (.mv (.cst (.v (.int .i64 4)))))⟩
  .done))
 .ret)
 .skip))))))
 (.seq (.tree (.seq ⟨some 2, none, (.ofA (.mv (.cst (.v (.int .i64 0)))))⟩
  .done))
 .ret))))))
def r166 : List XR := [.tmp 2]
theorem fn166 : FnX Tryz.prog 166 EFF 50 x166 r166 := ⟨_, Tryz.func166, by kernel_rfl, by kernel_rfl, by kernel_rfl, by kernel_rfl⟩
-- almshouse/geom.Blocks (1 parameters)
def x167 : XC := (.seq (.tree (.seq ⟨some 1, none, (.box (.tmp 0))⟩
  (.seq ⟨some 2, none, (.ofA (.mv (.cst (.v (.int .i64 0)))))⟩
  .done)))
 (.seq (.seq (.tree (.seq ⟨some 3, none, (.ofA (.load (some 4) (.tmp 1)))⟩
  (.seq ⟨some 4, none, (.call (.cst (.fn 166 [])) [(.tmp 3)])⟩
  (.seq ⟨some 5, none, (.ofA (.bin .neq (.tmp 4) (.cst (.v (.int .i64 0)))))⟩
  .done))))
 (.cond (.tmp 5)
 (.seq (.tree (.seq ⟨some 2, none, (.ofA (.mv (.cst (.v (.int .i64 0)))))⟩
  .done))
 .ret)
 .skip))
 (.seq (.tree (.seq ⟨some 6, none, (.ofA (.faddr 0 (.tmp 1)))⟩
  (.seq ⟨some 7, none, (.ofA (.load none (.tmp 6)))⟩
  (.seq ⟨some 8, none, (.ofA (.faddr 1 (.tmp 1)))⟩
  (.seq ⟨some 9, none, (.ofA (.load none (.tmp 8)))⟩
  (.seq ⟨some 10, none, (.ofA (.bin .mul (.tmp 7) (.tmp 9)))⟩
  (.seq ⟨some 11, none, (.ofA (.faddr 2 (.tmp 1)))⟩
  (.seq ⟨some 12, none, (.ofA (.load none (.tmp 11)))⟩
  (.seq ⟨some 13, none, (.ofA (.bin .mul (.tmp 10) (.tmp 12)))⟩
  (.seq ⟨some 2, none, (.ofA (.mv (.tmp 13)))⟩
  .done))))))))))
 .ret)))
def r167 : List XR := [.tmp 2]
theorem fn167 : FnX Tryz.prog 167 EFF 14 x167 r167 := ⟨_, Tryz.func167, by kernel_rfl, by kernel_rfl, by kernel_rfl, by kernel_rfl⟩
-- (*almshouse/nand.Nand).at (2 parameters)
def x168 : XC := (.seq (.tree (.seq ⟨some 4, none, (.ofA (.mv (.cst (.v (.pointer none)))))⟩
  .done))
 (.seq (.seq (.tree (.seq ⟨some 5, none, (.ofA (.mv (.tmp 0)))⟩
  (.seq ⟨some 6, none, (.ofA (.eqn false 1 (.tmp 5) (.cst (.v (.pointer none)))))⟩
  (.seq ⟨some 7, none, (.ofA (.mv (.tmp 6)))⟩
  (.seq ⟨some 8, some (7, false), (.ofA (.mv (.tmp 1)))⟩
  (.seq ⟨some 9, some (7, false), (.ofA (.bin .lss (.tmp 8) (.cst (.v (.int .i64 0)))))⟩
  (.seq ⟨some 10, none, (.ofA (.pick (.tmp 7) (.cst (.v (.bool true))) (.tmp 9)))⟩
  (.seq ⟨some 11, none, (.ofA (.mv (.tmp 10)))⟩
  (.seq ⟨some 12, some (11, false), (.ofA (.mv (.tmp 1)))⟩
  (.seq ⟨some 13, some (11, false), (.ofA (.mv (.tmp 0)))⟩
  (.seq ⟨some 14, some (11, false), (.ofA (.nilc (.tmp 13)))⟩
  (.seq ⟨some 15, some (11, false), (.ofA (.faddr 6 (.tmp 14)))⟩
  (.seq ⟨some 16, some (11, false), (.ofA (.load none (.tmp 15)))⟩
  (.seq ⟨some 17, some (11, false), (.ofA (.len (.tmp 16)))⟩
  (.seq ⟨some 18, some (11, false), (.ofA (.bin .geq (.tmp 12) (.tmp 17)))⟩
  (.seq ⟨some 19, none, (.ofA (.pick (.tmp 11) (.cst (.v (.bool true))) (.tmp 18)))⟩
  .done))))))))))))))))
 (.cond (.tmp 19)
 (.seq (.tree (.seq ⟨some 4, none, (.ofA (.mv (.cst (.v (.pointer none)))))⟩
  .done))
 .ret)
 .skip))
 (.seq (.tree (.seq ⟨some 20, none, (.ofA (.mv (.tmp 0)))⟩
  (.seq ⟨some 21, none, (.ofA (.nilc (.tmp 20)))⟩
  (.seq ⟨some 22, none, (.ofA (.faddr 6 (.tmp 21)))⟩
  (.seq ⟨some 23, none, (.ofA (.load none (.tmp 22)))⟩
  (.seq ⟨some 24, none, (.ofA (.mv (.tmp 1)))⟩
  (.seq ⟨some 25, none, (.ofA (.isl 4 (.tmp 23) (.tmp 24)))⟩
  (.seq ⟨some 4, none, (.ofA (.mv (.tmp 25)))⟩
  .done))))))))
 .ret)))
def r168 : List XR := [.tmp 4]
theorem fn168 : FnX Tryz.prog 168 EFF 26 x168 r168 := ⟨_, Tryz.func168, by kernel_rfl, by kernel_rfl, by kernel_rfl, by kernel_rfl⟩
-- slices.Clone[[]byte,byte] (1 parameters)
def x169 : XC := (.seq (.tree (.seq ⟨some 2, none, (.ofA (.mv (.cst (.v (.slice none 0 0)))))⟩
  .done))
 (.seq (.seq (.tree (.seq ⟨some 3, none, (.ofA (.mv (.tmp 0)))⟩
  (.seq ⟨some 4, none, (.ofA (.eqn false 2 (.tmp 3) (.cst (.v (.slice none 0 0)))))⟩
  .done)))
 (.cond (.tmp 4)
 (.seq (.tree (.seq ⟨some 2, none, (.ofA (.mv (.cst (.v (.slice none 0 0)))))⟩
  .done))
 .ret)
 .skip))
 (.seq (.tree (.seq ⟨some 5, none, (.buildSl 1 0 [] [])⟩
  (.seq ⟨some 6, none, (.ofA (.mv (.tmp 0)))⟩
  (.seq ⟨some 7, none, (.app 1 1 (.tmp 5) (.tmp 6))⟩
  (.seq ⟨some 2, none, (.ofA (.mv (.tmp 7)))⟩
  .done)))))
 .ret)))
def r169 : List XR := [.tmp 2]
theorem fn169 : FnX Tryz.prog 169 EFF 8 x169 r169 := ⟨_, Tryz.func169, by kernel_rfl, by kernel_rfl, by kernel_rfl, by kernel_rfl⟩
-- almshouse/frame.Whole (2 parameters)
def x170 : XC := (.seq (.tree (.seq ⟨some 4, none, (.ofA (.mv (.cst (.v (.slice none 0 0)))))⟩
  (.seq ⟨some 5, none, (.ofA (.mv (.cst (.v (.int .i64 0)))))⟩
  .done)))
 (.seq (.tree (.seq ⟨some 11, none, (.ofA (.mv (.tmp 0)))⟩
  (.seq ⟨some 12, none, (.call (.cst (.fn 208 [])) [(.tmp 11)])⟩
  (.seq ⟨some 10, none, (.ofA (.mv (.tmp 12)))⟩
  (.seq ⟨some 13, none, (.ofA (.extract 0 (.tmp 10)))⟩
  (.seq ⟨some 14, none, (.ofA (.extract 1 (.tmp 10)))⟩
  (.seq ⟨some 15, none, (.ofA (.extract 2 (.tmp 10)))⟩
  (.seq ⟨some 16, none, (.ofA (.extract 3 (.tmp 10)))⟩
  (.seq ⟨some 6, none, (.ofA (.mv (.tmp 13)))⟩
  (.seq ⟨some 7, none, (.ofA (.mv (.tmp 14)))⟩
  (.seq ⟨some 8, none, (.ofA (.mv (.tmp 15)))⟩
  (.seq ⟨some 9, none, (.ofA (.mv (.tmp 16)))⟩
  .done))))))))))))
 (.seq (.block 0 (.seq (.tree (.seq ⟨some 18, none, (.ofA (.mv (.tmp 9)))⟩
  (.seq ⟨some 19, none, (.ofA (.bin .neq (.tmp 18) (.cst (.v (.int .i64 0)))))⟩
  (.seq ⟨some 17, none, (.ofA (.mv (.tmp 19)))⟩
  .done))))
 (.cond (.tmp 17)
 (.seq (.tree (.seq ⟨some 20, none, (.ofA (.mv (.tmp 9)))⟩
  (.seq ⟨some 4, none, (.ofA (.mv (.cst (.v (.slice none 0 0)))))⟩
  (.seq ⟨some 5, none, (.ofA (.mv (.tmp 20)))⟩
  .done))))
 .ret)
 (.seq (.tree (.seq ⟨some 22, none, (.ofA (.mv (.tmp 8)))⟩
  (.seq ⟨some 23, none, (.ofA (.mv (.tmp 0)))⟩
  (.seq ⟨some 24, none, (.ofA (.len (.tmp 23)))⟩
  (.seq ⟨some 25, none, (.ofA (.bin .neq (.tmp 22) (.tmp 24)))⟩
  (.seq ⟨some 26, none, (.ofA (.mv (.tmp 25)))⟩
  (.seq ⟨some 27, some (26, false), (.ofA (.mv (.tmp 6)))⟩
  (.seq ⟨some 28, some (26, false), (.ofA (.mv (.tmp 1)))⟩
  (.seq ⟨some 29, some (26, false), (.ofA (.bin .neq (.tmp 27) (.tmp 28)))⟩
  (.seq ⟨some 30, none, (.ofA (.pick (.tmp 26) (.cst (.v (.bool true))) (.tmp 29)))⟩
  (.seq ⟨some 21, none, (.ofA (.mv (.tmp 30)))⟩
  .done)))))))))))
 (.cond (.tmp 21)
 (.seq (.tree (.seq ⟨some 4, none, (.ofA (.mv (.cst (.v (.slice none 0 0)))))⟩
  (.seq ⟨some 5, none, (.ofA (.mv (.cst (.v (.int .i64 2)))))⟩
  .done)))
 .ret)
 .skip)))))
 (.seq (.tree (.seq ⟨some 31, none, (.ofA (.mv (.tmp 7)))⟩
  (.seq ⟨some 4, none, (.ofA (.mv (.tmp 31)))⟩
  (.seq ⟨some 5, none, (.ofA (.mv (.cst (.v (.int .i64 0)))))⟩
  .done))))
 .ret))))
def r170 : List XR := [.tmp 4, .tmp 5]
theorem fn170 : FnX Tryz.prog 170 EFF 32 x170 r170 := ⟨_, Tryz.func170, by kernel_rfl, by kernel_rfl, by kernel_rfl, by kernel_rfl⟩
-- almshouse/word.Read (1 parameters)
def x171 : XC := (.seq (.tree (.seq ⟨some 2, none, (.ofA (.mv (.cst (.v (.pointer none)))))⟩
  .done))
 (.seq (.tree (.seq ⟨some 3, none, (.ofA (.mv (.tmp 0)))⟩
  (.seq ⟨some 4, none, (.call (.cst (.fn 169 [])) [(.tmp 3)])⟩
  (.seq ⟨some 5, none, (.build [(.v (.slice none 0 0)), (.v (.int .i64 0))] [(0, 1, (.tmp 4))])⟩
  (.seq ⟨some 6, none, (.box (.tmp 5))⟩
  (.seq ⟨some 2, none, (.ofA (.mv (.tmp 6)))⟩
  .done))))))
 .ret))
def r171 : List XR := [.tmp 2]
theorem fn171 : FnX Tryz.prog 171 EFF 7 x171 r171 := ⟨_, Tryz.func171, by kernel_rfl, by kernel_rfl, by kernel_rfl, by kernel_rfl⟩
-- (*almshouse/word.Reader).Number (2 parameters)
def x172 : XC := (.seq (.tree (.seq ⟨some 4, none, (.ofA (.mv (.cst (.v (.int .i64 0)))))⟩
  .done))
 (.seq (.seq (.tree (.seq ⟨some 8, none, (.ofA (.mv (.tmp 0)))⟩
  (.seq ⟨some 9, none, (.ofA (.eqn false 1 (.tmp 8) (.cst (.v (.pointer none)))))⟩
  (.seq ⟨some 10, none, (.ofA (.mv (.tmp 9)))⟩
  (.seq ⟨some 11, some (10, false), (.ofA (.mv (.tmp 1)))⟩
  (.seq ⟨some 12, some (10, false), (.call (.cst (.fn 209 [])) [(.tmp 11)])⟩
  (.seq ⟨some 13, some (10, false), (.ofA (.un .not (.tmp 12)))⟩
  (.seq ⟨some 14, some (10, false), (.ofA (.mv (.tmp 13)))⟩
  (.seq ⟨some 15, some (14, true), (.ofA (.mv (.tmp 0)))⟩
  (.seq ⟨some 16, some (14, true), (.call (.cst (.fn 210 [])) [(.tmp 15), (.cst (.v (.int .i64 1)))])⟩
  (.seq ⟨some 17, some (10, false), (.ofA (.pick (.tmp 14) (.tmp 16) (.cst (.v (.bool false)))))⟩
  (.seq ⟨some 18, none, (.ofA (.pick (.tmp 10) (.cst (.v (.bool true))) (.tmp 17)))⟩
  .done))))))))))))
 (.cond (.tmp 18)
 (.seq (.tree (.seq ⟨some 4, none, (.ofA (.mv (.cst (.v (.int .i64 0)))))⟩
  .done))
 .ret)
 .skip))
 (.seq (.tree (.seq ⟨some 5, none, (.ofA (.mv (.cst (.v (.int .i64 0)))))⟩
  .done))
 (.seq (.seq (.tree (.seq ⟨some 19, none, (.ofA (.mv (.tmp 0)))⟩
  (.seq ⟨some 20, none, (.ofA (.mv (.tmp 1)))⟩
  (.seq ⟨some 21, none, (.call (.cst (.fn 211 [])) [(.tmp 19), (.tmp 20)])⟩
  (.seq ⟨some 22, none, (.ofA (.len (.tmp 21)))⟩
  (.seq ⟨some 23, none, (.ofA (.mv (.cst (.v (.int .i64 0)))))⟩
  .done))))))
 (.block 0 (.loop (.seq (.tree (.seq ⟨some 24, none, (.ofA (.bin .lss (.tmp 23) (.tmp 22)))⟩
  .done))
 (.seq (.cond (.tmp 24)
 .skip
 (.exit 0))
 (.seq (.block 1 (.seq (.tree (.seq ⟨some 25, none, (.ofA (.mv (.tmp 23)))⟩
  (.seq ⟨some 26, none, (.ofA (.isl 1 (.tmp 21) (.tmp 23)))⟩
  (.seq ⟨some 27, none, (.ofA (.load none (.tmp 26)))⟩
  (.seq ⟨some 6, none, (.ofA (.mv (.tmp 25)))⟩
  (.seq ⟨some 7, none, (.ofA (.mv (.tmp 27)))⟩
  .done))))))
 (.tree (.seq ⟨some 28, none, (.ofA (.mv (.tmp 5)))⟩
  (.seq ⟨some 29, none, (.ofA (.mv (.tmp 7)))⟩
  (.seq ⟨some 30, none, (.ofA (.conv .i64 (.tmp 29)))⟩
  (.seq ⟨some 31, none, (.ofA (.mv (.tmp 6)))⟩
  (.seq ⟨some 32, none, (.ofA (.bin .mul (.cst (.v (.int .i64 8))) (.tmp 31)))⟩
  (.seq ⟨some 33, none, (.ofA (.conv .u64 (.tmp 32)))⟩
  (.seq ⟨some 34, none, (.ofA (.bin .shl (.tmp 30) (.tmp 33)))⟩
  (.seq ⟨some 35, none, (.ofA (.bin .or (.tmp 28) (.tmp 34)))⟩
  (.seq ⟨some 5, none, (.ofA (.mv (.tmp 35)))⟩
  .done))))))))))))
 (.tree (.seq ⟨some 36, none, (.ofA (.bin .add (.tmp 23) (.cst (.v (.int .i64 1)))))⟩
  (.seq ⟨some 23, none, (.ofA (.mv (.tmp 36)))⟩
  .done)))))))))
 (.seq (.tree (.seq ⟨some 37, none, (.ofA (.mv (.tmp 5)))⟩
  (.seq ⟨some 4, none, (.ofA (.mv (.tmp 37)))⟩
  .done)))
 .ret)))))
def r172 : List XR := [.tmp 4]
theorem fn172 : FnX Tryz.prog 172 EFF 38 x172 r172 := ⟨_, Tryz.func172, by kernel_rfl, by kernel_rfl, by kernel_rfl, by kernel_rfl⟩
-- (*almshouse/word.Reader).Flag (1 parameters)
def x173 : XC := (.seq (.tree (.seq ⟨some 2, none, (.ofA (.mv (.cst (.v (.bool false)))))⟩
  .done))
 (.seq (.tree (.seq ⟨some 4, none, (.ofA (.mv (.tmp 0)))⟩
  (.seq ⟨some 5, none, (.call (.cst (.fn 172 [])) [(.tmp 4), (.cst (.v (.int .i64 1)))])⟩
  (.seq ⟨some 3, none, (.ofA (.mv (.tmp 5)))⟩
  .done))))
 (.seq (.seq (.tree (.seq ⟨some 6, none, (.ofA (.mv (.tmp 3)))⟩
  (.seq ⟨some 7, none, (.ofA (.bin .gtr (.tmp 6) (.cst (.v (.int .i64 1)))))⟩
  .done)))
 (.cond (.tmp 7)
 (.tree (.seq ⟨some 8, none, (.ofA (.mv (.tmp 0)))⟩
  (.seq ⟨some 9, none, (.call (.cst (.fn 210 [])) [(.tmp 8), (.cst (.v (.int .i64 2)))])⟩
  .done)))
 .skip))
 (.seq (.tree (.seq ⟨some 10, none, (.ofA (.mv (.tmp 3)))⟩
  (.seq ⟨some 11, none, (.ofA (.bin .eql (.tmp 10) (.cst (.v (.int .i64 1)))))⟩
  (.seq ⟨some 2, none, (.ofA (.mv (.tmp 11)))⟩
  .done))))
 .ret))))
def r173 : List XR := [.tmp 2]
theorem fn173 : FnX Tryz.prog 173 EFF 12 x173 r173 := ⟨_, Tryz.func173, by kernel_rfl, by kernel_rfl, by kernel_rfl, by kernel_rfl⟩
-- (*almshouse/word.Reader).Done (1 parameters)
def x174 : XC := (.seq (.tree (.seq ⟨some 2, none, (.ofA (.mv (.cst (.v (.int .i64 0)))))⟩
  .done))
 (.seq (.seq (.tree (.seq ⟨some 3, none, (.ofA (.mv (.tmp 0)))⟩
  (.seq ⟨some 4, none, (.ofA (.eqn false 1 (.tmp 3) (.cst (.v (.pointer none)))))⟩
  .done)))
 (.cond (.tmp 4)
 (.seq (.tree (.seq ⟨some 2, none, (.ofA (.mv (.cst (.v (.int .i64 1)))))⟩
  .done))
 .ret)
 .skip))
 (.seq (.seq (.tree (.seq ⟨some 5, none, (.ofA (.mv (.tmp 0)))⟩
  (.seq ⟨some 6, none, (.ofA (.nilc (.tmp 5)))⟩
  (.seq ⟨some 7, none, (.ofA (.faddr 0 (.tmp 6)))⟩
  (.seq ⟨some 8, none, (.ofA (.load none (.tmp 7)))⟩
  (.seq ⟨some 9, none, (.ofA (.len (.tmp 8)))⟩
  (.seq ⟨some 10, none, (.ofA (.bin .gtr (.tmp 9) (.cst (.v (.int .i64 0)))))⟩
  .done)))))))
 (.cond (.tmp 10)
 (.tree (.seq ⟨some 11, none, (.ofA (.mv (.tmp 0)))⟩
  (.seq ⟨some 12, none, (.call (.cst (.fn 210 [])) [(.tmp 11), (.cst (.v (.int .i64 2)))])⟩
  .done)))
 .skip))
 (.seq (.tree (.seq ⟨some 13, none, (.ofA (.mv (.tmp 0)))⟩
  (.seq ⟨some 14, none, (.ofA (.nilc (.tmp 13)))⟩
  (.seq ⟨some 15, none, (.ofA (.faddr 1 (.tmp 14)))⟩
  (.seq ⟨some 16, none, (.ofA (.load none (.tmp 15)))⟩
  (.seq ⟨some 2, none, (.ofA (.mv (.tmp 16)))⟩
  .done))))))
 .ret))))
def r174 : List XR := [.tmp 2]
theorem fn174 : FnX Tryz.prog 174 EFF 17 x174 r174 := ⟨_, Tryz.func174, by kernel_rfl, by kernel_rfl, by kernel_rfl, by kernel_rfl⟩
-- almshouse/tag.Right (1 parameters)
def x175 : XC := (.seq (.tree (.seq ⟨some 1, none, (.box (.tmp 0))⟩
  (.seq ⟨some 2, none, (.ofA (.mv (.cst (.v (.bool false)))))⟩
  .done)))
 (.seq (.tree (.seq ⟨some 3, none, (.ofA (.faddr 0 (.tmp 1)))⟩
  (.seq ⟨some 4, none, (.ofA (.load none (.tmp 3)))⟩
  (.seq ⟨some 5, none, (.call (.cst (.fn 212 [])) [(.tmp 4), (.cst (.v (.int .i64 3)))])⟩
  (.seq ⟨some 6, none, (.ofA (.mv (.tmp 5)))⟩
  (.seq ⟨some 7, some (6, true), (.ofA (.faddr 1 (.tmp 1)))⟩
  (.seq ⟨some 8, some (6, true), (.ofA (.load none (.tmp 7)))⟩
  (.seq ⟨some 9, some (6, true), (.call (.cst (.fn 212 [])) [(.tmp 8), (.cst (.v (.int .i64 2147483647)))])⟩
  (.seq ⟨some 10, none, (.ofA (.pick (.tmp 6) (.tmp 9) (.cst (.v (.bool false)))))⟩
  (.seq ⟨some 11, none, (.ofA (.mv (.tmp 10)))⟩
  (.seq ⟨some 12, some (11, true), (.ofA (.faddr 2 (.tmp 1)))⟩
  (.seq ⟨some 13, some (11, true), (.ofA (.load none (.tmp 12)))⟩
  (.seq ⟨some 14, some (11, true), (.call (.cst (.fn 212 [])) [(.tmp 13), (.cst (.v (.int .i64 63)))])⟩
  (.seq ⟨some 15, none, (.ofA (.pick (.tmp 11) (.tmp 14) (.cst (.v (.bool false)))))⟩
  (.seq ⟨some 16, none, (.ofA (.mv (.tmp 15)))⟩
  (.seq ⟨some 17, some (16, true), (.ofA (.faddr 3 (.tmp 1)))⟩
  (.seq ⟨some 18, some (16, true), (.ofA (.load none (.tmp 17)))⟩
  (.seq ⟨some 19, some (16, true), (.call (.cst (.fn 212 [])) [(.tmp 18), (.cst (.v (.int .i64 2147483647)))])⟩
  (.seq ⟨some 20, none, (.ofA (.pick (.tmp 16) (.tmp 19) (.cst (.v (.bool false)))))⟩
  (.seq ⟨some 21, none, (.ofA (.mv (.tmp 20)))⟩
  (.seq ⟨some 22, some (21, true), (.ofA (.faddr 4 (.tmp 1)))⟩
  (.seq ⟨some 23, some (21, true), (.ofA (.load none (.tmp 22)))⟩
  (.seq ⟨some 24, some (21, true), (.ofA (.bin .eql (.tmp 23) (.cst (.v (.int .i64 1)))))⟩
  (.seq ⟨some 25, some (21, true), (.ofA (.mv (.tmp 24)))⟩
  (.seq ⟨some 26, some (25, false), (.ofA (.faddr 4 (.tmp 1)))⟩
  (.seq ⟨some 27, some (25, false), (.ofA (.load none (.tmp 26)))⟩
  (.seq ⟨some 28, some (25, false), (.ofA (.bin .eql (.tmp 27) (.cst (.v (.int .i64 2)))))⟩
  (.seq ⟨some 29, some (21, true), (.ofA (.pick (.tmp 25) (.cst (.v (.bool true))) (.tmp 28)))⟩
  (.seq ⟨some 30, none, (.ofA (.pick (.tmp 21) (.tmp 29) (.cst (.v (.bool false)))))⟩
  (.seq ⟨some 2, none, (.ofA (.mv (.tmp 30)))⟩
  .done))))))))))))))))))))))))))))))
 .ret))
def r175 : List XR := [.tmp 2]
theorem fn175 : FnX Tryz.prog 175 EFF 31 x175 r175 := ⟨_, Tryz.func175, by kernel_rfl, by kernel_rfl, by kernel_rfl, by kernel_rfl⟩
-- almshouse/buffer.check (1 parameters)
def x176 : XC := (.seq (.tree (.seq ⟨some 1, none, (.box (.tmp 0))⟩
  (.seq ⟨some 2, none, (.ofA (.mv (.cst (.v (.int .i64 0)))))⟩
  .done)))
 (.seq (.block 0 (.seq (.tree (.seq ⟨some 4, none, (.ofA (.faddr 1 (.tmp 1)))⟩
  (.seq ⟨some 5, none, (.ofA (.load none (.tmp 4)))⟩
  (.seq ⟨some 6, none, (.ofA (.bin .neq (.tmp 5) (.cst (.v (.int .i64 1)))))⟩
  (.seq ⟨some 7, none, (.ofA (.mv (.tmp 6)))⟩
  (.seq ⟨some 8, some (7, true), (.ofA (.faddr 1 (.tmp 1)))⟩
  (.seq ⟨some 9, some (7, true), (.ofA (.load none (.tmp 8)))⟩
  (.seq ⟨some 10, some (7, true), (.ofA (.bin .neq (.tmp 9) (.cst (.v (.int .i64 2)))))⟩
  (.seq ⟨some 11, none, (.ofA (.pick (.tmp 7) (.tmp 10) (.cst (.v (.bool false)))))⟩
  (.seq ⟨some 3, none, (.ofA (.mv (.tmp 11)))⟩
  .done))))))))))
 (.cond (.tmp 3)
 (.seq (.tree (.seq ⟨some 2, none, (.ofA (.mv (.cst (.v (.int .i64 1)))))⟩
  .done))
 .ret)
 (.seq (.tree (.seq ⟨some 13, none, (.ofA (.faddr 0 (.tmp 1)))⟩
  (.seq ⟨some 14, none, (.ofA (.load none (.tmp 13)))⟩
  (.seq ⟨some 15, none, (.ofA (.bin .lss (.tmp 14) (.cst (.v (.int .i64 0)))))⟩
  (.seq ⟨some 16, none, (.ofA (.mv (.tmp 15)))⟩
  (.seq ⟨some 17, some (16, false), (.ofA (.faddr 0 (.tmp 1)))⟩
  (.seq ⟨some 18, some (16, false), (.ofA (.load none (.tmp 17)))⟩
  (.seq ⟨some 19, some (16, false), (.ofA (.bin .geq (.tmp 18) (.cst (.v (.int .i64 64)))))⟩
  (.seq ⟨some 20, none, (.ofA (.pick (.tmp 16) (.cst (.v (.bool true))) (.tmp 19)))⟩
  (.seq ⟨some 21, none, (.ofA (.mv (.tmp 20)))⟩
  (.seq ⟨some 22, some (21, false), (.ofA (.faddr 1 (.tmp 1)))⟩
  (.seq ⟨some 23, some (21, false), (.ofA (.load none (.tmp 22)))⟩
  (.seq ⟨some 24, some (21, false), (.ofA (.bin .eql (.tmp 23) (.cst (.v (.int .i64 2)))))⟩
  (.seq ⟨some 25, some (21, false), (.ofA (.mv (.tmp 24)))⟩
  (.seq ⟨some 26, some (25, true), (.ofA (.faddr 2 (.tmp 1)))⟩
  (.seq ⟨some 27, some (25, true), (.ofA (.load none (.tmp 26)))⟩
  (.seq ⟨some 28, some (25, true), (.ofA (.bin .neq (.tmp 27) (.cst (.v (.string ⟨#[]⟩)))))⟩
  (.seq ⟨some 29, some (21, false), (.ofA (.pick (.tmp 25) (.tmp 28) (.cst (.v (.bool false)))))⟩
  (.seq ⟨some 30, none, (.ofA (.pick (.tmp 21) (.cst (.v (.bool true))) (.tmp 29)))⟩
  (.seq ⟨some 12, none, (.ofA (.mv (.tmp 30)))⟩
  .done))))))))))))))))))))
 (.cond (.tmp 12)
 (.seq (.tree (.seq ⟨some 2, none, (.ofA (.mv (.cst (.v (.int .i64 1)))))⟩
  .done))
 .ret)
 (.seq (.tree (.seq ⟨some 32, none, (.ofA (.faddr 2 (.tmp 1)))⟩
  (.seq ⟨some 33, none, (.ofA (.load none (.tmp 32)))⟩
  (.seq ⟨some 34, none, (.ofA (.lens (.tmp 33)))⟩
  (.seq ⟨some 35, none, (.ofA (.bin .gtr (.tmp 34) (.cst (.v (.int .i64 16)))))⟩
  (.seq ⟨some 31, none, (.ofA (.mv (.tmp 35)))⟩
  .done))))))
 (.cond (.tmp 31)
 (.seq (.tree (.seq ⟨some 2, none, (.ofA (.mv (.cst (.v (.int .i64 3)))))⟩
  .done))
 .ret)
 .skip)))))))
 (.seq (.tree (.seq ⟨some 2, none, (.ofA (.mv (.cst (.v (.int .i64 0)))))⟩
  .done))
 .ret)))
def r176 : List XR := [.tmp 2]
theorem fn176 : FnX Tryz.prog 176 EFF 36 x176 r176 := ⟨_, Tryz.func176, by kernel_rfl, by kernel_rfl, by kernel_rfl, by kernel_rfl⟩
-- (*almshouse/store.Store).room (1 parameters)
def x177 : XC := (.seq (.tree (.seq ⟨some 2, none, (.ofA (.mv (.cst (.v (.int .i64 0)))))⟩
  .done))
 (.seq (.seq (.tree (.seq ⟨some 8, none, (.ofA (.mv (.tmp 0)))⟩
  (.seq ⟨some 9, none, (.ofA (.nilc (.tmp 8)))⟩
  (.seq ⟨some 10, none, (.ofA (.faddr 10 (.tmp 9)))⟩
  (.seq ⟨some 11, none, (.ofA (.load none (.tmp 10)))⟩
  (.seq ⟨some 12, none, (.ofA (.bin .neq (.tmp 11) (.cst (.v (.int .i64 (-1))))))⟩
  (.seq ⟨some 13, none, (.ofA (.mv (.tmp 12)))⟩
  (.seq ⟨some 14, some (13, true), (.ofA (.mv (.tmp 0)))⟩
  (.seq ⟨some 15, some (13, true), (.ofA (.mv (.tmp 0)))⟩
  (.seq ⟨some 16, some (13, true), (.ofA (.nilc (.tmp 15)))⟩
  (.seq ⟨some 17, some (13, true), (.ofA (.faddr 10 (.tmp 16)))⟩
  (.seq ⟨some 18, some (13, true), (.ofA (.load none (.tmp 17)))⟩
  (.seq ⟨some 19, some (13, true), (.call (.cst (.fn 61 [])) [(.tmp 14), (.tmp 18)])⟩
  (.seq ⟨some 20, some (13, true), (.ofA (.mv (.tmp 0)))⟩
  (.seq ⟨some 21, some (13, true), (.call (.cst (.fn 63 [])) [(.tmp 20)])⟩
  (.seq ⟨some 22, some (13, true), (.ofA (.bin .lss (.tmp 19) (.tmp 21)))⟩
  (.seq ⟨some 23, none, (.ofA (.pick (.tmp 13) (.tmp 22) (.cst (.v (.bool false)))))⟩
  .done)))))))))))))))))
 (.cond (.tmp 23)
 (.seq (.tree (.seq ⟨some 2, none, (.ofA (.mv (.cst (.v (.int .i64 0)))))⟩
  .done))
 .ret)
 .skip))
 (.seq (.seq (.tree (.seq ⟨some 24, none, (.ofA (.mv (.tmp 0)))⟩
  (.seq ⟨some 25, none, (.call (.cst (.fn 19 [])) [(.tmp 24)])⟩
  (.seq ⟨some 3, none, (.ofA (.mv (.tmp 25)))⟩
  .done))))
 (.seq (.tree (.seq ⟨some 26, none, (.ofA (.mv (.tmp 3)))⟩
  (.seq ⟨some 27, none, (.ofA (.len (.tmp 26)))⟩
  (.seq ⟨some 28, none, (.ofA (.mv (.tmp 0)))⟩
  (.seq ⟨some 29, none, (.call (.cst (.fn 190 [])) [(.tmp 28)])⟩
  (.seq ⟨some 30, none, (.ofA (.bin .add (.cst (.v (.int .i64 1))) (.tmp 29)))⟩
  (.seq ⟨some 31, none, (.ofA (.bin .gtr (.tmp 27) (.tmp 30)))⟩
  .done)))))))
 (.cond (.tmp 31)
 (.seq (.tree (.seq ⟨some 32, none, (.ofA (.mv (.tmp 0)))⟩
  (.seq ⟨some 33, none, (.ofA (.mv (.tmp 3)))⟩
  (.seq ⟨some 34, none, (.ofA (.isl 1 (.tmp 33) (.cst (.v (.int .i64 0)))))⟩
  (.seq ⟨some 35, none, (.ofA (.load none (.tmp 34)))⟩
  (.seq ⟨some 36, none, (.ofA (.nilc (.tmp 32)))⟩
  (.seq ⟨some 37, none, (.ofA (.faddr 10 (.tmp 36)))⟩
  (.seq ⟨none, none, (.store 1 (.tmp 37) (.tmp 35))⟩
  .done))))))))
 (.seq (.tree (.seq ⟨some 2, none, (.ofA (.mv (.cst (.v (.int .i64 0)))))⟩
  .done))
 .ret))
 .skip)))
 (.seq (.tree (.seq ⟨some 38, none, (.ofA (.mv (.tmp 0)))⟩
  (.seq ⟨some 39, none, (.ofA (.nilc (.tmp 38)))⟩
  (.seq ⟨some 40, none, (.ofA (.faddr 2 (.tmp 39)))⟩
  (.seq ⟨some 41, none, (.ofA (.faddr 4 (.tmp 40)))⟩
  (.seq ⟨some 42, none, (.ofA (.load none (.tmp 41)))⟩
  (.seq ⟨some 43, none, (.ofA (.len (.tmp 42)))⟩
  (.seq ⟨some 44, none, (.mkSl 1 8 [(.v (.int .i64 0))] (.tmp 43) (.tmp 43))⟩
  (.seq ⟨some 4, none, (.ofA (.mv (.tmp 44)))⟩
  .done)))))))))
 (.seq (.seq (.tree (.seq ⟨some 45, none, (.ofA (.mv (.tmp 4)))⟩
  (.seq ⟨some 46, none, (.ofA (.len (.tmp 45)))⟩
  (.seq ⟨some 47, none, (.ofA (.mv (.cst (.v (.int .i64 0)))))⟩
  .done))))
 (.block 0 (.loop (.seq (.tree (.seq ⟨some 48, none, (.ofA (.bin .lss (.tmp 47) (.tmp 46)))⟩
  .done))
 (.seq (.cond (.tmp 48)
 .skip
 (.exit 0))
 (.seq (.block 1 (.seq (.tree (.seq ⟨some 49, none, (.ofA (.mv (.tmp 47)))⟩
  (.seq ⟨some 5, none, (.ofA (.mv (.tmp 49)))⟩
  .done)))
 (.seq (.tree (.seq ⟨some 50, none, (.ofA (.mv (.tmp 4)))⟩
  (.seq ⟨some 51, none, (.ofA (.mv (.tmp 5)))⟩
  (.seq ⟨some 52, none, (.ofA (.isl 1 (.tmp 50) (.tmp 51)))⟩
  (.seq ⟨none, none, (.store 1 (.tmp 52) (.cst (.v (.int .i64 (-1)))))⟩
  .done)))))
 (.seq (.tree (.seq ⟨some 53, none, (.ofA (.mv (.tmp 0)))⟩
  (.seq ⟨some 54, none, (.ofA (.nilc (.tmp 53)))⟩
  (.seq ⟨some 55, none, (.ofA (.faddr 7 (.tmp 54)))⟩
  (.seq ⟨some 56, none, (.ofA (.load none (.tmp 55)))⟩
  (.seq ⟨some 57, none, (.ofA (.mv (.tmp 5)))⟩
  (.seq ⟨some 58, none, (.call (.cst (.fn 62 [])) [(.tmp 56), (.tmp 57)])⟩
  (.seq ⟨some 6, none, (.ofA (.mv (.tmp 58)))⟩
  .done))))))))
 (.seq (.tree (.seq ⟨some 59, none, (.ofA (.mv (.tmp 0)))⟩
  (.seq ⟨some 60, none, (.ofA (.mv (.tmp 5)))⟩
  (.seq ⟨some 61, none, (.call (.cst (.fn 60 [])) [(.tmp 59), (.tmp 60)])⟩
  (.seq ⟨some 62, none, (.ofA (.un .not (.tmp 61)))⟩
  (.seq ⟨some 63, none, (.ofA (.mv (.tmp 62)))⟩
  (.seq ⟨some 64, some (63, true), (.ofA (.mv (.tmp 0)))⟩
  (.seq ⟨some 65, some (63, true), (.ofA (.mv (.tmp 5)))⟩
  (.seq ⟨some 66, some (63, true), (.call (.cst (.fn 61 [])) [(.tmp 64), (.tmp 65)])⟩
  (.seq ⟨some 67, some (63, true), (.ofA (.bin .gtr (.tmp 66) (.cst (.v (.int .i64 0)))))⟩
  (.seq ⟨some 68, none, (.ofA (.pick (.tmp 63) (.tmp 67) (.cst (.v (.bool false)))))⟩
  (.seq ⟨some 69, none, (.ofA (.mv (.tmp 68)))⟩
  (.seq ⟨some 70, some (69, true), (.ofA (.mv (.tmp 6)))⟩
  (.seq ⟨some 71, some (69, true), (.ofA (.mv (.tmp 0)))⟩
  (.seq ⟨some 72, some (69, true), (.call (.cst (.fn 63 [])) [(.tmp 71)])⟩
  (.seq ⟨some 73, some (69, true), (.ofA (.bin .lss (.tmp 70) (.tmp 72)))⟩
  (.seq ⟨some 74, none, (.ofA (.pick (.tmp 69) (.tmp 73) (.cst (.v (.bool false)))))⟩
  .done)))))))))))))))))
 (.cond (.tmp 74)
 (.tree (.seq ⟨some 75, none, (.ofA (.mv (.tmp 4)))⟩
  (.seq ⟨some 76, none, (.ofA (.mv (.tmp 5)))⟩
  (.seq ⟨some 77, none, (.ofA (.mv (.tmp 6)))⟩
  (.seq ⟨some 78, none, (.ofA (.isl 1 (.tmp 75) (.tmp 76)))⟩
  (.seq ⟨none, none, (.store 1 (.tmp 78) (.tmp 77))⟩
  .done))))))
 .skip))))))
 (.tree (.seq ⟨some 79, none, (.ofA (.bin .add (.tmp 47) (.cst (.v (.int .i64 1)))))⟩
  (.seq ⟨some 47, none, (.ofA (.mv (.tmp 79)))⟩
  .done)))))))))
 (.seq (.tree (.seq ⟨some 80, none, (.ofA (.mv (.tmp 4)))⟩
  (.seq ⟨some 81, none, (.call (.cst (.fn 213 [])) [(.tmp 80)])⟩
  (.seq ⟨some 7, none, (.ofA (.mv (.tmp 81)))⟩
  .done))))
 (.seq (.seq (.tree (.seq ⟨some 82, none, (.ofA (.mv (.tmp 7)))⟩
  (.seq ⟨some 83, none, (.ofA (.bin .lss (.tmp 82) (.cst (.v (.int .i64 0)))))⟩
  .done)))
 (.cond (.tmp 83)
 (.seq (.tree (.seq ⟨some 2, none, (.ofA (.mv (.cst (.v (.int .i64 8)))))⟩
  .done))
 .ret)
 .skip))
 (.seq (.tree (.seq ⟨some 84, none, (.ofA (.mv (.tmp 0)))⟩
  (.seq ⟨some 85, none, (.ofA (.mv (.tmp 7)))⟩
  (.seq ⟨some 86, none, (.call (.cst (.fn 64 [])) [(.tmp 84), (.tmp 85)])⟩
  (.seq ⟨some 2, none, (.ofA (.mv (.tmp 86)))⟩
  .done)))))
 .ret))))))))
def r177 : List XR := [.tmp 2]
theorem fn177 : FnX Tryz.prog 177 EFF 87 x177 r177 := ⟨_, Tryz.func177, by kernel_rfl, by kernel_rfl, by kernel_rfl, by kernel_rfl⟩
-- almshouse/tag.Bytes (1 parameters)
def x178 : XC := (.seq (.tree (.seq ⟨some 1, none, (.box (.tmp 0))⟩
  (.seq ⟨some 2, none, (.ofA (.mv (.cst (.v (.slice none 0 0)))))⟩
  (.seq ⟨some 3, none, (.ofA (.mv (.cst (.v (.int .i64 0)))))⟩
  .done))))
 (.seq (.seq (.tree (.seq ⟨some 8, none, (.ofA (.load (some 6) (.tmp 1)))⟩
  (.seq ⟨some 9, none, (.call (.cst (.fn 175 [])) [(.tmp 8)])⟩
  (.seq ⟨some 10, none, (.ofA (.un .not (.tmp 9)))⟩
  .done))))
 (.cond (.tmp 10)
 (.seq (.tree (.seq ⟨some 2, none, (.ofA (.mv (.cst (.v (.slice none 0 0)))))⟩
  (.seq ⟨some 3, none, (.ofA (.mv (.cst (.v (.int .i64 1)))))⟩
  .done)))
 .ret)
 .skip))
 (.seq (.tree (.seq ⟨some 4, none, (.ofA (.mv (.cst (.v (.slice none 0 0)))))⟩
  .done))
 (.seq (.seq (.tree (.seq ⟨some 11, none, (.ofA (.faddr 0 (.tmp 1)))⟩
  (.seq ⟨some 12, none, (.ofA (.load none (.tmp 11)))⟩
  (.seq ⟨some 13, none, (.build [(.v (.int .i64 0)), (.v (.int .i64 0))] [(0, 1, (.tmp 12)), (1, 1, (.cst (.v (.int .i64 1))))])⟩
  (.seq ⟨some 14, none, (.ofA (.faddr 1 (.tmp 1)))⟩
  (.seq ⟨some 15, none, (.ofA (.load none (.tmp 14)))⟩
  (.seq ⟨some 16, none, (.build [(.v (.int .i64 0)), (.v (.int .i64 0))] [(0, 1, (.tmp 15)), (1, 1, (.cst (.v (.int .i64 4))))])⟩
  (.seq ⟨some 17, none, (.ofA (.faddr 2 (.tmp 1)))⟩
  (.seq ⟨some 18, none, (.ofA (.load none (.tmp 17)))⟩
  (.seq ⟨some 19, none, (.build [(.v (.int .i64 0)), (.v (.int .i64 0))] [(0, 1, (.tmp 18)), (1, 1, (.cst (.v (.int .i64 1))))])⟩
  (.seq ⟨some 20, none, (.ofA (.faddr 3 (.tmp 1)))⟩
  (.seq ⟨some 21, none, (.ofA (.load none (.tmp 20)))⟩
  (.seq ⟨some 22, none, (.build [(.v (.int .i64 0)), (.v (.int .i64 0))] [(0, 1, (.tmp 21)), (1, 1, (.cst (.v (.int .i64 4))))])⟩
  (.seq ⟨some 23, none, (.ofA (.faddr 4 (.tmp 1)))⟩
  (.seq ⟨some 24, none, (.ofA (.load none (.tmp 23)))⟩
  (.seq ⟨some 25, none, (.build [(.v (.int .i64 0)), (.v (.int .i64 0))] [(0, 1, (.tmp 24)), (1, 1, (.cst (.v (.int .i64 1))))])⟩
  (.seq ⟨some 26, none, (.buildSl 2 5 [(.v (.int .i64 0)), (.v (.int .i64 0)), (.v (.int .i64 0)), (.v (.int .i64 0)), (.v (.int .i64 0)), (.v (.int .i64 0)), (.v (.int .i64 0)), (.v (.int .i64 0)), (.v (.int .i64 0)), (.v (.int .i64 0))] [(0, 2, (.tmp 13)), (2, 2, (.tmp 16)), (4, 2, (.tmp 19)), (6, 2, (.tmp 22)), (8, 2, (.tmp 25))])⟩
  (.seq ⟨some 27, none, (.ofA (.len (.tmp 26)))⟩
  (.seq ⟨some 28, none, (.ofA (.mv (.cst (.v (.int .i64 0)))))⟩
  .done)))))))))))))))))))
 (.block 0 (.loop (.seq (.tree (.seq ⟨some 29, none, (.ofA (.bin .lss (.tmp 28) (.tmp 27)))⟩
  .done))
 (.seq (.cond (.tmp 29)
 .skip
 (.exit 0))
 (.seq (.block 1 (.seq (.tree (.seq ⟨some 30, none, (.ofA (.isl 2 (.tmp 26) (.tmp 28)))⟩
  (.seq ⟨some 31, none, (.ofA (.load (some 2) (.tmp 30)))⟩
  (.seq ⟨some 6, none, (.alloc [(.v (.int .i64 0)), (.v (.int .i64 0))])⟩
  (.seq ⟨none, none, (.store 2 (.tmp 6) (.tmp 31))⟩
  .done)))))
 (.tree (.seq ⟨some 32, none, (.ofA (.mv (.tmp 4)))⟩
  (.seq ⟨some 33, none, (.ofA (.iarr 2 1 (.tmp 6) (.cst (.v (.int .i64 0)))))⟩
  (.seq ⟨some 34, none, (.ofA (.load none (.tmp 33)))⟩
  (.seq ⟨some 35, none, (.ofA (.iarr 2 1 (.tmp 6) (.cst (.v (.int .i64 1)))))⟩
  (.seq ⟨some 36, none, (.ofA (.load none (.tmp 35)))⟩
  (.seq ⟨some 37, none, (.call (.cst (.fn 214 [])) [(.tmp 32), (.tmp 34), (.tmp 36)])⟩
  (.seq ⟨some 4, none, (.ofA (.mv (.tmp 37)))⟩
  .done))))))))))
 (.tree (.seq ⟨some 38, none, (.ofA (.bin .add (.tmp 28) (.cst (.v (.int .i64 1)))))⟩
  (.seq ⟨some 28, none, (.ofA (.mv (.tmp 38)))⟩
  .done)))))))))
 (.seq (.tree (.seq ⟨some 7, none, (.ofA (.mv (.cst (.v (.int .i64 0)))))⟩
  .done))
 (.seq (.seq (.tree (.seq ⟨some 39, none, (.ofA (.faddr 5 (.tmp 1)))⟩
  (.seq ⟨some 40, none, (.ofA (.load none (.tmp 39)))⟩
  .done)))
 (.cond (.tmp 40)
 (.tree (.seq ⟨some 7, none, (.ofA (.mv (.cst (.v (.int .i64 1)))))⟩
  .done))
 .skip))
 (.seq (.tree (.seq ⟨some 41, none, (.ofA (.mv (.tmp 4)))⟩
  (.seq ⟨some 42, none, (.ofA (.mv (.tmp 7)))⟩
  (.seq ⟨some 43, none, (.call (.cst (.fn 214 [])) [(.tmp 41), (.tmp 42), (.cst (.v (.int .i64 1)))])⟩
  (.seq ⟨some 44, none, (.call (.cst (.fn 215 [])) [(.cst (.v (.int .i64 84))), (.tmp 43)])⟩
  (.seq ⟨some 45, none, (.ofA (.extract 0 (.tmp 44)))⟩
  (.seq ⟨some 46, none, (.ofA (.extract 1 (.tmp 44)))⟩
  (.seq ⟨some 2, none, (.ofA (.mv (.tmp 45)))⟩
  (.seq ⟨some 3, none, (.ofA (.mv (.tmp 46)))⟩
  .done)))))))))
 .ret)))))))
def r178 : List XR := [.tmp 2, .tmp 3]
theorem fn178 : FnX Tryz.prog 178 EFF 47 x178 r178 := ⟨_, Tryz.func178, by kernel_rfl, by kernel_rfl, by kernel_rfl, by kernel_rfl⟩
-- (*almshouse/nand.Nand).Program (6 parameters)
def x179 : XC := (.seq (.tree (.seq ⟨some 9, none, (.box (.tmp 3))⟩
  (.seq ⟨some 12, none, (.ofA (.mv (.cst (.v (.int .i64 0)))))⟩
  .done)))
 (.seq (.tree (.seq ⟨some 15, none, (.ofA (.mv (.tmp 0)))⟩
  (.seq ⟨some 16, none, (.ofA (.mv (.tmp 2)))⟩
  (.seq ⟨some 17, none, (.call (.cst (.fn 168 [])) [(.tmp 15), (.tmp 16)])⟩
  (.seq ⟨some 13, none, (.alloc [(.v (.pointer none))])⟩
  (.seq ⟨none, none, (.store 1 (.tmp 13) (.tmp 17))⟩
  .done))))))
 (.seq (.block 0 (.seq (.tree (.seq ⟨some 19, none, (.ofA (.mv (.tmp 0)))⟩
  (.seq ⟨some 20, none, (.ofA (.eqn false 1 (.tmp 19) (.cst (.v (.pointer none)))))⟩
  (.seq ⟨some 18, none, (.ofA (.mv (.tmp 20)))⟩
  .done))))
 (.cond (.tmp 18)
 (.seq (.tree (.seq ⟨some 12, none, (.ofA (.mv (.cst (.v (.int .i64 1)))))⟩
  .done))
 .ret)
 (.seq (.tree (.take ⟨some 22, none, (.ofA (.load none (.tmp 13)))⟩
  (.take ⟨some 23, none, (.ofA (.eqn false 1 (.tmp 22) (.cst (.v (.pointer none)))))⟩
  (.take ⟨some 24, none, (.ofA (.mv (.tmp 23)))⟩
  (.take ⟨some 25, some (24, false), (.ofA (.load none (.tmp 9)))⟩
  (.take ⟨some 26, some (24, false), (.ofA (.bin .lss (.tmp 25) (.cst (.v (.int .i64 0)))))⟩
  (.take ⟨some 27, none, (.ofA (.pick (.tmp 24) (.cst (.v (.bool true))) (.tmp 26)))⟩
  (.take ⟨some 28, none, (.ofA (.mv (.tmp 27)))⟩
  (.take ⟨some 29, some (28, false), (.ofA (.load none (.tmp 9)))⟩
  (.take ⟨some 30, some (28, false), (.ofA (.load none (.tmp 13)))⟩
  (.take ⟨some 31, some (28, false), (.ofA (.nilc (.tmp 30)))⟩
  (.take ⟨some 32, some (28, false), (.ofA (.faddr 0 (.tmp 31)))⟩
  (.take ⟨some 33, some (28, false), (.ofA (.load none (.tmp 32)))⟩
  (.take ⟨some 34, some (28, false), (.ofA (.len (.tmp 33)))⟩
  (.take ⟨some 35, some (28, false), (.ofA (.bin .geq (.tmp 29) (.tmp 34)))⟩
  (.take ⟨some 36, none, (.ofA (.pick (.tmp 28) (.cst (.v (.bool true))) (.tmp 35)))⟩
  (.take ⟨some 21, none, (.ofA (.mv (.tmp 36)))⟩
  .done)))))))))))))))))
 (.cond (.tmp 21)
 (.seq (.tree (.seq ⟨some 12, none, (.ofA (.mv (.cst (.v (.int .i64 5)))))⟩
  .done))
 .ret)
 (.seq (.tree (.seq ⟨some 38, none, (.ofA (.mv (.tmp 4)))⟩
  (.seq ⟨some 39, none, (.ofA (.len (.tmp 38)))⟩
  (.seq ⟨some 40, none, (.ofA (.bin .gtr (.tmp 39) (.cst (.v (.int .i64 32)))))⟩
  (.seq ⟨some 41, none, (.ofA (.mv (.tmp 40)))⟩
  (.seq ⟨some 42, some (41, false), (.ofA (.mv (.tmp 5)))⟩
  (.seq ⟨some 43, some (41, false), (.ofA (.lens (.tmp 42)))⟩
  (.seq ⟨some 44, some (41, false), (.ofA (.bin .gtr (.tmp 43) (.cst (.v (.int .i64 160)))))⟩
  (.seq ⟨some 45, none, (.ofA (.pick (.tmp 41) (.cst (.v (.bool true))) (.tmp 44)))⟩
  (.seq ⟨some 37, none, (.ofA (.mv (.tmp 45)))⟩
  .done))))))))))
 (.cond (.tmp 37)
 (.seq (.tree (.seq ⟨some 12, none, (.ofA (.mv (.cst (.v (.int .i64 3)))))⟩
  .done))
 .ret)
 (.seq (.tree (.seq ⟨some 47, none, (.ofA (.load none (.tmp 13)))⟩
  (.seq ⟨some 48, none, (.ofA (.nilc (.tmp 47)))⟩
  (.seq ⟨some 49, none, (.ofA (.faddr 2 (.tmp 48)))⟩
  (.seq ⟨some 50, none, (.ofA (.load none (.tmp 49)))⟩
  (.seq ⟨some 46, none, (.ofA (.mv (.tmp 50)))⟩
  .done))))))
 (.cond (.tmp 46)
 (.seq (.tree (.seq ⟨some 12, none, (.ofA (.mv (.cst (.v (.int .i64 10)))))⟩
  .done))
 .ret)
 (.seq (.tree (.take ⟨some 52, none, (.ofA (.load none (.tmp 9)))⟩
  (.take ⟨some 53, none, (.ofA (.load none (.tmp 13)))⟩
  (.take ⟨some 54, none, (.ofA (.nilc (.tmp 53)))⟩
  (.take ⟨some 55, none, (.ofA (.faddr 1 (.tmp 54)))⟩
  (.take ⟨some 56, none, (.ofA (.load none (.tmp 55)))⟩
  (.take ⟨some 57, none, (.ofA (.bin .neq (.tmp 52) (.tmp 56)))⟩
  (.take ⟨some 51, none, (.ofA (.mv (.tmp 57)))⟩
  .done))))))))
 (.cond (.tmp 51)
 (.seq (.tree (.seq ⟨some 12, none, (.ofA (.mv (.cst (.v (.int .i64 9)))))⟩
  .done))
 .ret)
 .skip)))))))))))
 (.seq (.tree (.seq ⟨some 58, none, (.ofA (.mv (.tmp 0)))⟩
  (.seq ⟨some 59, none, (.ofA (.mv (.tmp 1)))⟩
  (.seq ⟨some 60, none, (.ofA (.mkfn 216 [(.tmp 13), (.tmp 9)]))⟩
  (.seq ⟨some 61, none, (.call (.cst (.fn 187 [])) [(.tmp 58), (.tmp 59), (.tmp 60)])⟩
  (.seq ⟨some 14, none, (.ofA (.mv (.tmp 61)))⟩
  .done))))))
 (.seq (.seq (.tree (.seq ⟨some 62, none, (.ofA (.mv (.tmp 14)))⟩
  (.seq ⟨some 63, none, (.ofA (.bin .eql (.tmp 62) (.cst (.v (.int .i64 0)))))⟩
  .done)))
 (.cond (.tmp 63)
 (.seq (.tree (.take ⟨some 64, none, (.ofA (.load none (.tmp 13)))⟩
  (.take ⟨some 65, none, (.ofA (.nilc (.tmp 64)))⟩
  (.take ⟨some 66, none, (.ofA (.faddr 0 (.tmp 65)))⟩
  (.take ⟨some 67, none, (.ofA (.load none (.tmp 66)))⟩
  (.take ⟨some 68, none, (.ofA (.load none (.tmp 9)))⟩
  (.take ⟨some 69, none, (.ofA (.mv (.tmp 4)))⟩
  (.take ⟨some 71, none, (.ofA (.mv (.tmp 5)))⟩
  (.alt [true] [(⟨some 70, none, (.call (.cst (.fn 169 [])) [(.tmp 69)])⟩,
 (.alt [true] [(⟨some 72, none, (.build [(.v (.int .i64 0)), (.v (.slice none 0 0)), (.v (.string ⟨#[]⟩))] [(0, 1, (.cst (.v (.int .i64 1)))), (1, 1, (.tmp 70)), (2, 1, (.tmp 71))])⟩,
 (.take ⟨some 73, none, (.ofA (.isl 3 (.tmp 67) (.tmp 68)))⟩
  (.alt [false] [(⟨none, none, (.store 3 (.tmp 73) (.tmp 72))⟩,
 .done)])))]))])))))))))
 (.tree (.seq ⟨some 74, none, (.ofA (.load none (.tmp 13)))⟩
  (.seq ⟨some 75, none, (.ofA (.load none (.tmp 9)))⟩
  (.seq ⟨some 76, none, (.ofA (.bin .add (.tmp 75) (.cst (.v (.int .i64 1)))))⟩
  (.seq ⟨some 77, none, (.ofA (.nilc (.tmp 74)))⟩
  (.seq ⟨some 78, none, (.ofA (.faddr 1 (.tmp 77)))⟩
  (.seq ⟨none, none, (.store 1 (.tmp 78) (.tmp 76))⟩
  .done))))))))
 .skip))
 (.seq (.tree (.seq ⟨some 79, none, (.ofA (.mv (.tmp 14)))⟩
  (.seq ⟨some 12, none, (.ofA (.mv (.tmp 79)))⟩
  .done)))
 .ret))))))
def r179 : List XR := [.tmp 12]
theorem fn179 : FnX Tryz.prog 179 EFF 80 x179 r179 := ⟨_, Tryz.func179, by kernel_rfl, by kernel_rfl, by kernel_rfl, by kernel_rfl⟩
-- slices.Index[[]int,int] (2 parameters)
def x184 : XC := (.seq (.tree (.seq ⟨some 4, none, (.ofA (.mv (.cst (.v (.int .i64 0)))))⟩
  .done))
 (.seq (.seq (.tree (.seq ⟨some 6, none, (.ofA (.mv (.tmp 0)))⟩
  (.seq ⟨some 7, none, (.ofA (.len (.tmp 6)))⟩
  (.seq ⟨some 8, none, (.ofA (.mv (.cst (.v (.int .i64 0)))))⟩
  .done))))
 (.block 0 (.loop (.seq (.tree (.seq ⟨some 9, none, (.ofA (.bin .lss (.tmp 8) (.tmp 7)))⟩
  .done))
 (.seq (.cond (.tmp 9)
 .skip
 (.exit 0))
 (.seq (.block 1 (.seq (.tree (.seq ⟨some 10, none, (.ofA (.mv (.tmp 8)))⟩
  (.seq ⟨some 5, none, (.ofA (.mv (.tmp 10)))⟩
  .done)))
 (.seq (.tree (.seq ⟨some 11, none, (.ofA (.mv (.tmp 1)))⟩
  (.seq ⟨some 12, none, (.ofA (.mv (.tmp 0)))⟩
  (.seq ⟨some 13, none, (.ofA (.mv (.tmp 5)))⟩
  (.seq ⟨some 14, none, (.ofA (.isl 1 (.tmp 12) (.tmp 13)))⟩
  (.seq ⟨some 15, none, (.ofA (.load none (.tmp 14)))⟩
  (.seq ⟨some 16, none, (.ofA (.bin .eql (.tmp 11) (.tmp 15)))⟩
  .done)))))))
 (.cond (.tmp 16)
 (.seq (.tree (.seq ⟨some 17, none, (.ofA (.mv (.tmp 5)))⟩
  (.seq ⟨some 4, none, (.ofA (.mv (.tmp 17)))⟩
  .done)))
 .ret)
 .skip))))
 (.tree (.seq ⟨some 18, none, (.ofA (.bin .add (.tmp 8) (.cst (.v (.int .i64 1)))))⟩
  (.seq ⟨some 8, none, (.ofA (.mv (.tmp 18)))⟩
  .done)))))))))
 (.seq (.tree (.seq ⟨some 4, none, (.ofA (.mv (.cst (.v (.int .i64 (-1))))))⟩
  .done))
 .ret)))
def r184 : List XR := [.tmp 4]
theorem fn184 : FnX Tryz.prog 184 EFF 19 x184 r184 := ⟨_, Tryz.func184, by kernel_rfl, by kernel_rfl, by kernel_rfl, by kernel_rfl⟩
-- slices.pdqsortOrdered[int] (4 parameters)
def x185 : XC := (.seq (.tree (.seq ⟨some 8, none, (.ofA (.mv (.cst (.v (.bool true)))))⟩
  .done))
 (.seq (.tree (.seq ⟨some 9, none, (.ofA (.mv (.cst (.v (.bool true)))))⟩
  .done))
 (.block 0 (.loop (.block 1 (.seq (.tree (.seq ⟨some 19, none, (.ofA (.mv (.tmp 2)))⟩
  (.seq ⟨some 20, none, (.ofA (.mv (.tmp 1)))⟩
  (.seq ⟨some 21, none, (.ofA (.bin .sub (.tmp 19) (.tmp 20)))⟩
  (.seq ⟨some 10, none, (.ofA (.mv (.tmp 21)))⟩
  .done)))))
 (.seq (.seq (.tree (.seq ⟨some 22, none, (.ofA (.mv (.tmp 10)))⟩
  (.seq ⟨some 23, none, (.ofA (.bin .leq (.tmp 22) (.cst (.v (.int .i64 12)))))⟩
  .done)))
 (.cond (.tmp 23)
 (.seq (.tree (.seq ⟨some 24, none, (.ofA (.mv (.tmp 0)))⟩
  (.seq ⟨some 25, none, (.ofA (.mv (.tmp 1)))⟩
  (.seq ⟨some 26, none, (.ofA (.mv (.tmp 2)))⟩
  (.seq ⟨some 27, none, (.call (.cst (.fn 217 [])) [(.tmp 24), (.tmp 25), (.tmp 26)])⟩
  .done)))))
 .ret)
 .skip))
 (.seq (.seq (.tree (.seq ⟨some 28, none, (.ofA (.mv (.tmp 3)))⟩
  (.seq ⟨some 29, none, (.ofA (.bin .eql (.tmp 28) (.cst (.v (.int .i64 0)))))⟩
  .done)))
 (.cond (.tmp 29)
 (.seq (.tree (.seq ⟨some 30, none, (.ofA (.mv (.tmp 0)))⟩
  (.seq ⟨some 31, none, (.ofA (.mv (.tmp 1)))⟩
  (.seq ⟨some 32, none, (.ofA (.mv (.tmp 2)))⟩
  (.seq ⟨some 33, none, (.call (.cst (.fn 218 [])) [(.tmp 30), (.tmp 31), (.tmp 32)])⟩
  .done)))))
 .ret)
 .skip))
 (.seq (.seq (.tree (.seq ⟨some 34, none, (.ofA (.mv (.tmp 8)))⟩
  (.seq ⟨some 35, none, (.ofA (.un .not (.tmp 34)))⟩
  .done)))
 (.cond (.tmp 35)
 (.seq (.tree (.seq ⟨some 36, none, (.ofA (.mv (.tmp 0)))⟩
  (.seq ⟨some 37, none, (.ofA (.mv (.tmp 1)))⟩
  (.seq ⟨some 38, none, (.ofA (.mv (.tmp 2)))⟩
  (.seq ⟨some 39, none, (.call (.cst (.fn 219 [])) [(.tmp 36), (.tmp 37), (.tmp 38)])⟩
  .done)))))
 (.tree (.seq ⟨some 40, none, (.ofA (.mv (.tmp 3)))⟩
  (.seq ⟨some 41, none, (.ofA (.bin .sub (.tmp 40) (.cst (.v (.int .i64 1)))))⟩
  (.seq ⟨some 3, none, (.ofA (.mv (.tmp 41)))⟩
  .done)))))
 .skip))
 (.seq (.tree (.seq ⟨some 43, none, (.ofA (.mv (.tmp 0)))⟩
  (.seq ⟨some 44, none, (.ofA (.mv (.tmp 1)))⟩
  (.seq ⟨some 45, none, (.ofA (.mv (.tmp 2)))⟩
  (.seq ⟨some 46, none, (.call (.cst (.fn 220 [])) [(.tmp 43), (.tmp 44), (.tmp 45)])⟩
  (.seq ⟨some 42, none, (.ofA (.mv (.tmp 46)))⟩
  (.seq ⟨some 47, none, (.ofA (.extract 0 (.tmp 42)))⟩
  (.seq ⟨some 48, none, (.ofA (.extract 1 (.tmp 42)))⟩
  (.seq ⟨some 11, none, (.ofA (.mv (.tmp 47)))⟩
  (.seq ⟨some 12, none, (.ofA (.mv (.tmp 48)))⟩
  .done))))))))))
 (.seq (.seq (.tree (.seq ⟨some 49, none, (.ofA (.mv (.tmp 12)))⟩
  (.seq ⟨some 50, none, (.ofA (.bin .eql (.tmp 49) (.cst (.v (.int .i64 2)))))⟩
  .done)))
 (.cond (.tmp 50)
 (.seq (.tree (.seq ⟨some 51, none, (.ofA (.mv (.tmp 0)))⟩
  (.seq ⟨some 52, none, (.ofA (.mv (.tmp 1)))⟩
  (.seq ⟨some 53, none, (.ofA (.mv (.tmp 2)))⟩
  (.seq ⟨some 54, none, (.call (.cst (.fn 221 [])) [(.tmp 51), (.tmp 52), (.tmp 53)])⟩
  .done)))))
 (.seq (.tree (.seq ⟨some 55, none, (.ofA (.mv (.tmp 2)))⟩
  (.seq ⟨some 56, none, (.ofA (.bin .sub (.tmp 55) (.cst (.v (.int .i64 1)))))⟩
  (.seq ⟨some 57, none, (.ofA (.mv (.tmp 11)))⟩
  (.seq ⟨some 58, none, (.ofA (.mv (.tmp 1)))⟩
  (.seq ⟨some 59, none, (.ofA (.bin .sub (.tmp 57) (.tmp 58)))⟩
  (.seq ⟨some 60, none, (.ofA (.bin .sub (.tmp 56) (.tmp 59)))⟩
  (.seq ⟨some 11, none, (.ofA (.mv (.tmp 60)))⟩
  .done))))))))
 (.tree (.seq ⟨some 12, none, (.ofA (.mv (.cst (.v (.int .i64 1)))))⟩
  .done))))
 .skip))
 (.seq (.seq (.tree (.seq ⟨some 61, none, (.ofA (.mv (.tmp 8)))⟩
  (.seq ⟨some 62, none, (.ofA (.mv (.tmp 61)))⟩
  (.seq ⟨some 63, some (62, true), (.ofA (.mv (.tmp 9)))⟩
  (.seq ⟨some 64, none, (.ofA (.pick (.tmp 62) (.tmp 63) (.cst (.v (.bool false)))))⟩
  (.seq ⟨some 65, none, (.ofA (.mv (.tmp 64)))⟩
  (.seq ⟨some 66, some (65, true), (.ofA (.mv (.tmp 12)))⟩
  (.seq ⟨some 67, some (65, true), (.ofA (.bin .eql (.tmp 66) (.cst (.v (.int .i64 1)))))⟩
  (.seq ⟨some 68, none, (.ofA (.pick (.tmp 65) (.tmp 67) (.cst (.v (.bool false)))))⟩
  .done)))))))))
 (.cond (.tmp 68)
 (.seq (.tree (.seq ⟨some 69, none, (.ofA (.mv (.tmp 0)))⟩
  (.seq ⟨some 70, none, (.ofA (.mv (.tmp 1)))⟩
  (.seq ⟨some 71, none, (.ofA (.mv (.tmp 2)))⟩
  (.seq ⟨some 72, none, (.call (.cst (.fn 222 [])) [(.tmp 69), (.tmp 70), (.tmp 71)])⟩
  .done)))))
 (.cond (.tmp 72)
 .ret
 .skip))
 .skip))
 (.seq (.seq (.tree (.take ⟨some 73, none, (.ofA (.mv (.tmp 1)))⟩
  (.take ⟨some 74, none, (.ofA (.bin .gtr (.tmp 73) (.cst (.v (.int .i64 0)))))⟩
  (.take ⟨some 75, none, (.ofA (.mv (.tmp 74)))⟩
  (.take ⟨some 76, some (75, true), (.ofA (.mv (.tmp 0)))⟩
  (.take ⟨some 77, some (75, true), (.ofA (.mv (.tmp 1)))⟩
  (.take ⟨some 78, some (75, true), (.ofA (.bin .sub (.tmp 77) (.cst (.v (.int .i64 1)))))⟩
  (.take ⟨some 79, some (75, true), (.ofA (.isl 1 (.tmp 76) (.tmp 78)))⟩
  (.take ⟨some 80, some (75, true), (.ofA (.load none (.tmp 79)))⟩
  (.take ⟨some 81, some (75, true), (.ofA (.mv (.tmp 0)))⟩
  (.take ⟨some 82, some (75, true), (.ofA (.mv (.tmp 11)))⟩
  (.take ⟨some 83, some (75, true), (.ofA (.isl 1 (.tmp 81) (.tmp 82)))⟩
  (.take ⟨some 84, some (75, true), (.ofA (.load none (.tmp 83)))⟩
  (.act true [(⟨some 85, some (75, true), (.call (.cst (.fn 223 [])) [(.tmp 80), (.tmp 84)])⟩,
 (.take ⟨some 86, some (75, true), (.ofA (.un .not (.tmp 85)))⟩
  (.take ⟨some 87, none, (.ofA (.pick (.tmp 75) (.tmp 86) (.cst (.v (.bool false)))))⟩
  .done)))]))))))))))))))
 (.cond (.tmp 87)
 (.seq (.tree (.seq ⟨some 88, none, (.ofA (.mv (.tmp 0)))⟩
  (.seq ⟨some 89, none, (.ofA (.mv (.tmp 1)))⟩
  (.seq ⟨some 90, none, (.ofA (.mv (.tmp 2)))⟩
  (.seq ⟨some 91, none, (.ofA (.mv (.tmp 11)))⟩
  (.seq ⟨some 92, none, (.call (.cst (.fn 224 [])) [(.tmp 88), (.tmp 89), (.tmp 90), (.tmp 91)])⟩
  (.seq ⟨some 13, none, (.ofA (.mv (.tmp 92)))⟩
  .done)))))))
 (.seq (.tree (.seq ⟨some 93, none, (.ofA (.mv (.tmp 13)))⟩
  (.seq ⟨some 1, none, (.ofA (.mv (.tmp 93)))⟩
  .done)))
 (.exit 1)))
 .skip))
 (.seq (.tree (.seq ⟨some 95, none, (.ofA (.mv (.tmp 0)))⟩
  (.seq ⟨some 96, none, (.ofA (.mv (.tmp 1)))⟩
  (.seq ⟨some 97, none, (.ofA (.mv (.tmp 2)))⟩
  (.seq ⟨some 98, none, (.ofA (.mv (.tmp 11)))⟩
  (.seq ⟨some 99, none, (.call (.cst (.fn 225 [])) [(.tmp 95), (.tmp 96), (.tmp 97), (.tmp 98)])⟩
  (.seq ⟨some 94, none, (.ofA (.mv (.tmp 99)))⟩
  (.seq ⟨some 100, none, (.ofA (.extract 0 (.tmp 94)))⟩
  (.seq ⟨some 101, none, (.ofA (.extract 1 (.tmp 94)))⟩
  (.seq ⟨some 14, none, (.ofA (.mv (.tmp 100)))⟩
  (.seq ⟨some 15, none, (.ofA (.mv (.tmp 101)))⟩
  .done)))))))))))
 (.seq (.tree (.seq ⟨some 102, none, (.ofA (.mv (.tmp 15)))⟩
  (.seq ⟨some 9, none, (.ofA (.mv (.tmp 102)))⟩
  .done)))
 (.seq (.tree (.seq ⟨some 103, none, (.ofA (.mv (.tmp 14)))⟩
  (.seq ⟨some 104, none, (.ofA (.mv (.tmp 1)))⟩
  (.seq ⟨some 105, none, (.ofA (.bin .sub (.tmp 103) (.tmp 104)))⟩
  (.seq ⟨some 106, none, (.ofA (.mv (.tmp 2)))⟩
  (.seq ⟨some 107, none, (.ofA (.mv (.tmp 14)))⟩
  (.seq ⟨some 108, none, (.ofA (.bin .sub (.tmp 106) (.tmp 107)))⟩
  (.seq ⟨some 16, none, (.ofA (.mv (.tmp 105)))⟩
  (.seq ⟨some 17, none, (.ofA (.mv (.tmp 108)))⟩
  .done)))))))))
 (.seq (.tree (.seq ⟨some 109, none, (.ofA (.mv (.tmp 10)))⟩
  (.seq ⟨some 110, none, (.ofA (.bin .quo (.tmp 109) (.cst (.v (.int .i64 8)))))⟩
  (.seq ⟨some 18, none, (.ofA (.mv (.tmp 110)))⟩
  .done))))
 (.seq (.tree (.seq ⟨some 111, none, (.ofA (.mv (.tmp 16)))⟩
  (.seq ⟨some 112, none, (.ofA (.mv (.tmp 17)))⟩
  (.seq ⟨some 113, none, (.ofA (.bin .lss (.tmp 111) (.tmp 112)))⟩
  .done))))
 (.cond (.tmp 113)
 (.seq (.tree (.seq ⟨some 114, none, (.ofA (.mv (.tmp 16)))⟩
  (.seq ⟨some 115, none, (.ofA (.mv (.tmp 18)))⟩
  (.seq ⟨some 116, none, (.ofA (.bin .geq (.tmp 114) (.tmp 115)))⟩
  (.seq ⟨some 8, none, (.ofA (.mv (.tmp 116)))⟩
  .done)))))
 (.seq (.tree (.seq ⟨some 117, none, (.ofA (.mv (.tmp 0)))⟩
  (.seq ⟨some 118, none, (.ofA (.mv (.tmp 1)))⟩
  (.seq ⟨some 119, none, (.ofA (.mv (.tmp 14)))⟩
  (.seq ⟨some 120, none, (.ofA (.mv (.tmp 3)))⟩
  (.seq ⟨some 121, none, (.call (.cst (.fn 185 [])) [(.tmp 117), (.tmp 118), (.tmp 119), (.tmp 120)])⟩
  .done))))))
 (.tree (.seq ⟨some 122, none, (.ofA (.mv (.tmp 14)))⟩
  (.seq ⟨some 123, none, (.ofA (.bin .add (.tmp 122) (.cst (.v (.int .i64 1)))))⟩
  (.seq ⟨some 1, none, (.ofA (.mv (.tmp 123)))⟩
  .done))))))
 (.seq (.tree (.seq ⟨some 124, none, (.ofA (.mv (.tmp 17)))⟩
  (.seq ⟨some 125, none, (.ofA (.mv (.tmp 18)))⟩
  (.seq ⟨some 126, none, (.ofA (.bin .geq (.tmp 124) (.tmp 125)))⟩
  (.seq ⟨some 8, none, (.ofA (.mv (.tmp 126)))⟩
  .done)))))
 (.seq (.tree (.seq ⟨some 127, none, (.ofA (.mv (.tmp 0)))⟩
  (.seq ⟨some 128, none, (.ofA (.mv (.tmp 14)))⟩
  (.seq ⟨some 129, none, (.ofA (.bin .add (.tmp 128) (.cst (.v (.int .i64 1)))))⟩
  (.seq ⟨some 130, none, (.ofA (.mv (.tmp 2)))⟩
  (.seq ⟨some 131, none, (.ofA (.mv (.tmp 3)))⟩
  (.seq ⟨some 132, none, (.call (.cst (.fn 185 [])) [(.tmp 127), (.tmp 129), (.tmp 130), (.tmp 131)])⟩
  .done)))))))
 (.tree (.seq ⟨some 133, none, (.ofA (.mv (.tmp 14)))⟩
  (.seq ⟨some 2, none, (.ofA (.mv (.tmp 133)))⟩
  .done))))))))))))))))))))))))
def r185 : List XR := []
theorem fn185 : FnX Tryz.prog 185 EFF 134 x185 r185 := ⟨_, Tryz.func185, by kernel_rfl, by kernel_rfl, by kernel_rfl, by kernel_rfl⟩
-- math/bits.Len (1 parameters)
def x186 : XC := (.seq (.tree (.seq ⟨some 2, none, (.ofA (.mv (.cst (.v (.int .i64 0)))))⟩
  .done))
 (.seq (.cond (.cst (.v (.bool false)))
 (.seq (.tree (.seq ⟨some 3, none, (.ofA (.mv (.tmp 0)))⟩
  (.seq ⟨some 4, none, (.ofA (.conv .u32 (.tmp 3)))⟩
  (.seq ⟨some 5, none, (.call (.cst (.fn 226 [])) [(.tmp 4)])⟩
  (.seq ⟨some 2, none, (.ofA (.mv (.tmp 5)))⟩
  .done)))))
 .ret)
 .skip)
 (.seq (.tree (.seq ⟨some 6, none, (.ofA (.mv (.tmp 0)))⟩
  (.seq ⟨some 7, none, (.call (.cst (.fn 227 [])) [(.tmp 6)])⟩
  (.seq ⟨some 2, none, (.ofA (.mv (.tmp 7)))⟩
  .done))))
 .ret)))
def r186 : List XR := [.tmp 2]
theorem fn186 : FnX Tryz.prog 186 EFF 8 x186 r186 := ⟨_, Tryz.func186, by kernel_rfl, by kernel_rfl, by kernel_rfl, by kernel_rfl⟩
-- (*almshouse/nand.Nand).spend (3 parameters)
def x187 : XC := (.seq (.tree (.seq ⟨some 6, none, (.ofA (.mv (.cst (.v (.int .i64 0)))))⟩
  .done))
 (.seq (.seq (.tree (.seq ⟨some 7, none, (.ofA (.mv (.tmp 0)))⟩
  (.seq ⟨some 8, none, (.ofA (.nilc (.tmp 7)))⟩
  (.seq ⟨some 9, none, (.ofA (.faddr 4 (.tmp 8)))⟩
  (.seq ⟨some 10, none, (.ofA (.load none (.tmp 9)))⟩
  (.seq ⟨some 11, none, (.call (.cst (.fn 228 [])) [(.tmp 10)])⟩
  .done))))))
 (.block 0 (.seq (.tree (.seq ⟨some 13, none, (.ofA (.bin .eql (.tmp 11) (.cst (.v (.int .i64 12)))))⟩
  (.seq ⟨some 12, none, (.ofA (.mv (.tmp 13)))⟩
  .done)))
 (.cond (.tmp 12)
 (.seq (.tree (.seq ⟨some 6, none, (.ofA (.mv (.cst (.v (.int .i64 12)))))⟩
  .done))
 .ret)
 (.seq (.tree (.seq ⟨some 15, none, (.ofA (.bin .eql (.tmp 11) (.cst (.v (.int .i64 11)))))⟩
  (.seq ⟨some 14, none, (.ofA (.mv (.tmp 15)))⟩
  .done)))
 (.cond (.tmp 14)
 (.seq (.tree (.seq ⟨some 16, none, (.ofA (.mv (.tmp 2)))⟩
  (.seq ⟨some 17, none, (.call (.tmp 16) [])⟩
  .done)))
 (.seq (.tree (.seq ⟨some 6, none, (.ofA (.mv (.cst (.v (.int .i64 12)))))⟩
  .done))
 .ret))
 .skip))))))
 (.seq (.seq (.tree (.seq ⟨some 18, none, (.ofA (.mv (.tmp 0)))⟩
  (.seq ⟨some 19, none, (.ofA (.nilc (.tmp 18)))⟩
  (.seq ⟨some 20, none, (.ofA (.faddr 5 (.tmp 19)))⟩
  (.seq ⟨some 21, none, (.ofA (.load none (.tmp 20)))⟩
  (.seq ⟨some 22, none, (.ofA (.mv (.tmp 1)))⟩
  (.seq ⟨some 23, none, (.call (.cst (.fn 229 [])) [(.tmp 21), (.tmp 22)])⟩
  .done)))))))
 (.cond (.tmp 23)
 (.seq (.tree (.seq ⟨some 24, none, (.ofA (.mv (.tmp 2)))⟩
  (.seq ⟨some 25, none, (.call (.tmp 24) [])⟩
  .done)))
 (.seq (.tree (.seq ⟨some 6, none, (.ofA (.mv (.cst (.v (.int .i64 10)))))⟩
  .done))
 .ret))
 .skip))
 (.seq (.tree (.seq ⟨some 6, none, (.ofA (.mv (.cst (.v (.int .i64 0)))))⟩
  .done))
 .ret))))
def r187 : List XR := [.tmp 6]
theorem fn187 : FnX Tryz.prog 187 EFF 26 x187 r187 := ⟨_, Tryz.func187, by kernel_rfl, by kernel_rfl, by kernel_rfl, by kernel_rfl⟩
-- (*almshouse/store.Store).spares (1 parameters)
def x190 : XC := (.seq (.tree (.seq ⟨some 2, none, (.ofA (.mv (.cst (.v (.int .i64 0)))))⟩
  .done))
 (.seq (.tree (.take ⟨some 3, none, (.ofA (.mv (.tmp 0)))⟩
  (.take ⟨some 4, none, (.ofA (.nilc (.tmp 3)))⟩
  (.take ⟨some 5, none, (.ofA (.faddr 2 (.tmp 4)))⟩
  (.take ⟨some 6, none, (.ofA (.faddr 3 (.tmp 5)))⟩
  (.take ⟨some 7, none, (.ofA (.load none (.tmp 6)))⟩
  (.take ⟨some 8, none, (.ofA (.mv (.tmp 0)))⟩
  (.act true [(⟨some 9, none, (.call (.cst (.fn 20 [])) [(.tmp 8)])⟩,
 (.take ⟨some 10, none, (.ofA (.bin .sub (.tmp 7) (.tmp 9)))⟩
  (.take ⟨some 2, none, (.ofA (.mv (.tmp 10)))⟩
  .done)))]))))))))
 .ret))
def r190 : List XR := [.tmp 2]
theorem fn190 : FnX Tryz.prog 190 EFF 11 x190 r190 := ⟨_, Tryz.func190, by kernel_rfl, by kernel_rfl, by kernel_rfl, by kernel_rfl⟩
-- sync/atomic.b32 (1 parameters)
def x194 : XC := (.seq (.tree (.seq ⟨some 2, none, (.ofA (.mv (.cst (.v (.int .u32 0)))))⟩
  .done))
 (.seq (.seq (.tree (.seq ⟨some 3, none, (.ofA (.mv (.tmp 0)))⟩
  .done))
 (.cond (.tmp 3)
 (.seq (.tree (.seq ⟨some 2, none, (.ofA (.mv (.cst (.v (.int .u32 1)))))⟩
  .done))
 .ret)
 .skip))
 (.seq (.tree (.seq ⟨some 2, none, (.ofA (.mv (.cst (.v (.int .u32 0)))))⟩
  .done))
 .ret)))
def r194 : List XR := [.tmp 2]
theorem fn194 : FnX Tryz.prog 194 EFF 4 x194 r194 := ⟨_, Tryz.func194, by kernel_rfl, by kernel_rfl, by kernel_rfl, by kernel_rfl⟩
-- almshouse/ledger.Owner (2 parameters)
def x197 : XC := (.seq (.tree (.seq ⟨some 2, none, (.box (.tmp 0))⟩
  (.seq ⟨some 3, none, (.box (.tmp 1))⟩
  (.seq ⟨some 4, none, (.ofA (.mv (.cst (.v (.int .i64 0)))))⟩
  .done))))
 (.seq (.tree (.seq ⟨some 5, none, (.ofA (.faddr 2 (.tmp 2)))⟩
  (.seq ⟨some 6, none, (.ofA (.slca 4 5 (.tmp 5) none none))⟩
  (.seq ⟨some 7, none, (.ofA (.mkfn 231 [(.tmp 3)]))⟩
  (.seq ⟨some 8, none, (.call (.cst (.fn 230 [])) [(.tmp 6), (.tmp 7)])⟩
  (.seq ⟨some 4, none, (.ofA (.mv (.tmp 8)))⟩
  .done))))))
 .ret))
def r197 : List XR := [.tmp 4]
theorem fn197 : FnX Tryz.prog 197 EFF 9 x197 r197 := ⟨_, Tryz.func197, by kernel_rfl, by kernel_rfl, by kernel_rfl, by kernel_rfl⟩
-- almshouse/snap.Bytes (3 parameters)
def x198 : XC := (.seq (.tree (.seq ⟨some 3, none, (.box (.tmp 0))⟩
  (.seq ⟨some 6, none, (.ofA (.mv (.cst (.v (.slice none 0 0)))))⟩
  (.seq ⟨some 7, none, (.ofA (.mv (.cst (.v (.int .i64 0)))))⟩
  .done))))
 (.seq (.seq (.tree (.seq ⟨some 12, none, (.ofA (.load (some 22) (.tmp 3)))⟩
  (.seq ⟨some 13, none, (.ofA (.mv (.tmp 1)))⟩
  (.seq ⟨some 14, none, (.ofA (.mv (.tmp 2)))⟩
  (.seq ⟨some 15, none, (.call (.cst (.fn 232 [])) [(.tmp 12), (.tmp 13), (.tmp 14)])⟩
  (.seq ⟨some 8, none, (.ofA (.mv (.tmp 15)))⟩
  .done))))))
 (.seq (.tree (.seq ⟨some 16, none, (.ofA (.mv (.tmp 8)))⟩
  (.seq ⟨some 17, none, (.ofA (.bin .neq (.tmp 16) (.cst (.v (.int .i64 0)))))⟩
  .done)))
 (.cond (.tmp 17)
 (.seq (.tree (.seq ⟨some 18, none, (.ofA (.mv (.tmp 8)))⟩
  (.seq ⟨some 6, none, (.ofA (.mv (.cst (.v (.slice none 0 0)))))⟩
  (.seq ⟨some 7, none, (.ofA (.mv (.tmp 18)))⟩
  .done))))
 .ret)
 .skip)))
 (.seq (.tree (.take ⟨some 19, none, (.ofA (.faddr 0 (.tmp 3)))⟩
  (.take ⟨some 20, none, (.ofA (.load none (.tmp 19)))⟩
  (.take ⟨some 22, none, (.ofA (.faddr 1 (.tmp 3)))⟩
  (.take ⟨some 23, none, (.ofA (.load none (.tmp 22)))⟩
  (.act true [(⟨some 21, none, (.call (.cst (.fn 214 [])) [(.cst (.v (.slice none 0 0))), (.tmp 20), (.cst (.v (.int .i64 4)))])⟩,
 (.act true [(⟨some 24, none, (.call (.cst (.fn 214 [])) [(.tmp 21), (.tmp 23), (.cst (.v (.int .i64 4)))])⟩,
 (.take ⟨some 9, none, (.ofA (.mv (.tmp 24)))⟩
  .done))]))]))))))
 (.seq (.seq (.tree (.seq ⟨some 25, none, (.ofA (.faddr 2 (.tmp 3)))⟩
  (.seq ⟨some 26, none, (.ofA (.load (some 20) (.tmp 25)))⟩
  (.seq ⟨some 27, none, (.ofA (.mv (.cst (.v (.int .i64 0)))))⟩
  .done))))
 (.block 0 (.loop (.seq (.tree (.seq ⟨some 28, none, (.ofA (.bin .lss (.tmp 27) (.cst (.v (.int .i64 4)))))⟩
  .done))
 (.seq (.cond (.tmp 28)
 .skip
 (.exit 0))
 (.seq (.block 1 (.seq (.tree (.seq ⟨some 29, none, (.ofA (.idx 4 5 true (.tmp 26) (.tmp 27)))⟩
  (.seq ⟨some 11, none, (.alloc [(.v (.bool false)), (.v (.int .i64 0)), (.v (.int .i64 0)), (.v (.int .i64 0)), (.v (.slice none 0 0))])⟩
  (.seq ⟨none, none, (.store 5 (.tmp 11) (.tmp 29))⟩
  .done))))
 (.tree (.seq ⟨some 30, none, (.ofA (.mv (.tmp 9)))⟩
  (.seq ⟨some 31, none, (.ofA (.load (some 5) (.tmp 11)))⟩
  (.seq ⟨some 32, none, (.call (.cst (.fn 233 [])) [(.tmp 30), (.tmp 31)])⟩
  (.seq ⟨some 9, none, (.ofA (.mv (.tmp 32)))⟩
  .done)))))))
 (.tree (.seq ⟨some 33, none, (.ofA (.bin .add (.tmp 27) (.cst (.v (.int .i64 1)))))⟩
  (.seq ⟨some 27, none, (.ofA (.mv (.tmp 33)))⟩
  .done)))))))))
 (.seq (.tree (.seq ⟨some 34, none, (.ofA (.mv (.tmp 9)))⟩
  (.seq ⟨some 35, none, (.call (.cst (.fn 215 [])) [(.cst (.v (.int .i64 76))), (.tmp 34)])⟩
  (.seq ⟨some 36, none, (.ofA (.extract 0 (.tmp 35)))⟩
  (.seq ⟨some 37, none, (.ofA (.extract 1 (.tmp 35)))⟩
  (.seq ⟨some 6, none, (.ofA (.mv (.tmp 36)))⟩
  (.seq ⟨some 7, none, (.ofA (.mv (.tmp 37)))⟩
  .done)))))))
 .ret)))))
def r198 : List XR := [.tmp 6, .tmp 7]
theorem fn198 : FnX Tryz.prog 198 EFF 38 x198 r198 := ⟨_, Tryz.func198, by kernel_rfl, by kernel_rfl, by kernel_rfl, by kernel_rfl⟩
-- almshouse/adlog.place (2 parameters)
def x199 : XC := (.seq (.tree (.seq ⟨some 4, none, (.ofA (.mv (.cst (.v (.int .i64 0)))))⟩
  (.seq ⟨some 5, none, (.ofA (.mv (.cst (.v (.int .i64 0)))))⟩
  (.seq ⟨some 6, none, (.ofA (.mv (.cst (.v (.int .i64 0)))))⟩
  .done))))
 (.seq (.seq (.tree (.seq ⟨some 10, none, (.ofA (.mv (.tmp 0)))⟩
  (.seq ⟨some 11, none, (.ofA (.mv (.tmp 1)))⟩
  (.seq ⟨some 12, none, (.call (.cst (.fn 127 [])) [(.tmp 10), (.tmp 11)])⟩
  (.seq ⟨some 7, none, (.ofA (.mv (.tmp 12)))⟩
  .done)))))
 (.seq (.tree (.seq ⟨some 13, none, (.ofA (.mv (.tmp 7)))⟩
  (.seq ⟨some 14, none, (.ofA (.mv (.tmp 0)))⟩
  (.seq ⟨some 15, none, (.call (.cst (.fn 54 [])) [(.tmp 14)])⟩
  (.seq ⟨some 16, none, (.ofA (.field 3 none (.tmp 15)))⟩
  (.seq ⟨some 17, none, (.ofA (.bin .lss (.tmp 13) (.tmp 16)))⟩
  .done))))))
 (.cond (.tmp 17)
 (.seq (.tree (.seq ⟨some 18, none, (.ofA (.mv (.tmp 1)))⟩
  (.seq ⟨some 19, none, (.ofA (.mv (.tmp 7)))⟩
  (.seq ⟨some 4, none, (.ofA (.mv (.tmp 18)))⟩
  (.seq ⟨some 5, none, (.ofA (.mv (.tmp 19)))⟩
  (.seq ⟨some 6, none, (.ofA (.mv (.cst (.v (.int .i64 0)))))⟩
  .done))))))
 .ret)
 .skip)))
 (.seq (.tree (.seq ⟨some 20, none, (.ofA (.mv (.tmp 1)))⟩
  (.seq ⟨some 21, none, (.ofA (.bin .sub (.cst (.v (.int .i64 1))) (.tmp 20)))⟩
  (.seq ⟨some 8, none, (.ofA (.mv (.tmp 21)))⟩
  .done))))
 (.seq (.seq (.tree (.seq ⟨some 22, none, (.ofA (.mv (.tmp 0)))⟩
  (.seq ⟨some 23, none, (.ofA (.mv (.tmp 8)))⟩
  (.seq ⟨some 24, none, (.call (.cst (.fn 136 [])) [(.tmp 22), (.tmp 23)])⟩
  (.seq ⟨some 25, none, (.ofA (.un .not (.tmp 24)))⟩
  .done)))))
 (.cond (.tmp 25)
 (.seq (.tree (.seq ⟨some 26, none, (.ofA (.mv (.tmp 0)))⟩
  (.seq ⟨some 27, none, (.ofA (.mv (.tmp 8)))⟩
  (.seq ⟨some 28, none, (.call (.cst (.fn 134 [])) [(.tmp 26), (.cst (.v (.int .i64 4))), (.tmp 27)])⟩
  (.seq ⟨some 9, none, (.ofA (.mv (.tmp 28)))⟩
  .done)))))
 (.seq (.tree (.seq ⟨some 29, none, (.ofA (.mv (.tmp 9)))⟩
  (.seq ⟨some 30, none, (.ofA (.bin .neq (.tmp 29) (.cst (.v (.int .i64 0)))))⟩
  .done)))
 (.cond (.tmp 30)
 (.seq (.tree (.seq ⟨some 31, none, (.ofA (.mv (.tmp 9)))⟩
  (.seq ⟨some 4, none, (.ofA (.mv (.cst (.v (.int .i64 0)))))⟩
  (.seq ⟨some 5, none, (.ofA (.mv (.cst (.v (.int .i64 0)))))⟩
  (.seq ⟨some 6, none, (.ofA (.mv (.tmp 31)))⟩
  .done)))))
 .ret)
 .skip)))
 .skip))
 (.seq (.tree (.seq ⟨some 32, none, (.ofA (.mv (.tmp 8)))⟩
  (.seq ⟨some 4, none, (.ofA (.mv (.tmp 32)))⟩
  (.seq ⟨some 5, none, (.ofA (.mv (.cst (.v (.int .i64 0)))))⟩
  (.seq ⟨some 6, none, (.ofA (.mv (.cst (.v (.int .i64 0)))))⟩
  .done)))))
 .ret)))))
def r199 : List XR := [.tmp 4, .tmp 5, .tmp 6]
theorem fn199 : FnX Tryz.prog 199 EFF 33 x199 r199 := ⟨_, Tryz.func199, by kernel_rfl, by kernel_rfl, by kernel_rfl, by kernel_rfl⟩
-- slices.SortFunc[[]almshouse/heal.Spot,almshouse/heal.Spot] (2 parameters)
def x203 : XC := (.seq (.tree (.seq ⟨some 5, none, (.ofA (.mv (.tmp 0)))⟩
  (.seq ⟨some 6, none, (.ofA (.len (.tmp 5)))⟩
  (.seq ⟨some 4, none, (.ofA (.mv (.tmp 6)))⟩
  .done))))
 (.tree (.seq ⟨some 7, none, (.ofA (.mv (.tmp 0)))⟩
  (.seq ⟨some 8, none, (.ofA (.mv (.tmp 4)))⟩
  (.seq ⟨some 9, none, (.ofA (.mv (.tmp 4)))⟩
  (.seq ⟨some 10, none, (.ofA (.conv .u64 (.tmp 9)))⟩
  (.seq ⟨some 11, none, (.call (.cst (.fn 186 [])) [(.tmp 10)])⟩
  (.seq ⟨some 12, none, (.ofA (.mv (.tmp 1)))⟩
  (.seq ⟨some 13, none, (.call (.cst (.fn 240 [])) [(.tmp 7), (.cst (.v (.int .i64 0))), (.tmp 8), (.tmp 11), (.tmp 12)])⟩
  .done)))))))))
def r203 : List XR := []
theorem fn203 : FnX Tryz.prog 203 EFF 14 x203 r203 := ⟨_, Tryz.func203, by kernel_rfl, by kernel_rfl, by kernel_rfl, by kernel_rfl⟩
-- cmp.Compare[int] (2 parameters)
def x205 : XC := (.seq (.tree (.seq ⟨some 4, none, (.ofA (.mv (.cst (.v (.int .i64 0)))))⟩
  .done))
 (.seq (.tree (.seq ⟨some 7, none, (.ofA (.mv (.tmp 0)))⟩
  (.seq ⟨some 8, none, (.call (.cst (.fn 241 [])) [(.tmp 7)])⟩
  (.seq ⟨some 5, none, (.ofA (.mv (.tmp 8)))⟩
  .done))))
 (.seq (.tree (.seq ⟨some 9, none, (.ofA (.mv (.tmp 1)))⟩
  (.seq ⟨some 10, none, (.call (.cst (.fn 241 [])) [(.tmp 9)])⟩
  (.seq ⟨some 6, none, (.ofA (.mv (.tmp 10)))⟩
  .done))))
 (.seq (.seq (.tree (.seq ⟨some 11, none, (.ofA (.mv (.tmp 5)))⟩
  .done))
 (.cond (.tmp 11)
 (.seq (.seq (.tree (.seq ⟨some 12, none, (.ofA (.mv (.tmp 6)))⟩
  .done))
 (.cond (.tmp 12)
 (.seq (.tree (.seq ⟨some 4, none, (.ofA (.mv (.cst (.v (.int .i64 0)))))⟩
  .done))
 .ret)
 .skip))
 (.seq (.tree (.seq ⟨some 4, none, (.ofA (.mv (.cst (.v (.int .i64 (-1))))))⟩
  .done))
 .ret))
 .skip))
 (.seq (.seq (.tree (.seq ⟨some 13, none, (.ofA (.mv (.tmp 6)))⟩
  .done))
 (.cond (.tmp 13)
 (.seq (.tree (.seq ⟨some 4, none, (.ofA (.mv (.cst (.v (.int .i64 1)))))⟩
  .done))
 .ret)
 .skip))
 (.seq (.seq (.tree (.seq ⟨some 14, none, (.ofA (.mv (.tmp 0)))⟩
  (.seq ⟨some 15, none, (.ofA (.mv (.tmp 1)))⟩
  (.seq ⟨some 16, none, (.ofA (.bin .lss (.tmp 14) (.tmp 15)))⟩
  .done))))
 (.cond (.tmp 16)
 (.seq (.tree (.seq ⟨some 4, none, (.ofA (.mv (.cst (.v (.int .i64 (-1))))))⟩
  .done))
 .ret)
 .skip))
 (.seq (.seq (.tree (.seq ⟨some 17, none, (.ofA (.mv (.tmp 0)))⟩
  (.seq ⟨some 18, none, (.ofA (.mv (.tmp 1)))⟩
  (.seq ⟨some 19, none, (.ofA (.bin .gtr (.tmp 17) (.tmp 18)))⟩
  .done))))
 (.cond (.tmp 19)
 (.seq (.tree (.seq ⟨some 4, none, (.ofA (.mv (.cst (.v (.int .i64 1)))))⟩
  .done))
 .ret)
 .skip))
 (.seq (.tree (.seq ⟨some 4, none, (.ofA (.mv (.cst (.v (.int .i64 0)))))⟩
  .done))
 .ret))))))))
def r205 : List XR := [.tmp 4]
theorem fn205 : FnX Tryz.prog 205 EFF 20 x205 r205 := ⟨_, Tryz.func205, by kernel_rfl, by kernel_rfl, by kernel_rfl, by kernel_rfl⟩
-- almshouse/warden.Do (2 parameters)
def x207 : XC := (.seq (.tree (.seq ⟨some 3, none, (.box (.tmp 1))⟩
  (.seq ⟨some 4, none, (.ofA (.mv (.cst (.v (.int .i64 0)))))⟩
  .done)))
 (.seq (.seq (.tree (.seq ⟨some 7, none, (.ofA (.faddr 0 (.tmp 3)))⟩
  (.seq ⟨some 8, none, (.ofA (.load none (.tmp 7)))⟩
  .done)))
 (.block 0 (.seq (.tree (.seq ⟨some 10, none, (.ofA (.bin .eql (.tmp 8) (.cst (.v (.int .i64 5)))))⟩
  (.seq ⟨some 9, none, (.ofA (.mv (.tmp 10)))⟩
  .done)))
 (.cond (.tmp 9)
 (.seq (.tree (.seq ⟨some 11, none, (.ofA (.mv (.tmp 0)))⟩
  (.seq ⟨some 12, none, (.ofA (.faddr 1 (.tmp 3)))⟩
  (.seq ⟨some 13, none, (.ofA (.load none (.tmp 12)))⟩
  (.seq ⟨some 14, none, (.ofA (.faddr 5 (.tmp 3)))⟩
  (.seq ⟨some 15, none, (.ofA (.load (some 3) (.tmp 14)))⟩
  (.seq ⟨some 16, none, (.call (.cst (.fn 33 [])) [(.tmp 11), (.tmp 13), (.tmp 15)])⟩
  (.seq ⟨some 4, none, (.ofA (.mv (.tmp 16)))⟩
  .done))))))))
 .ret)
 (.seq (.tree (.seq ⟨some 18, none, (.ofA (.bin .eql (.tmp 8) (.cst (.v (.int .i64 6)))))⟩
  (.seq ⟨some 17, none, (.ofA (.mv (.tmp 18)))⟩
  .done)))
 (.cond (.tmp 17)
 (.seq (.tree (.seq ⟨some 19, none, (.ofA (.mv (.tmp 0)))⟩
  (.seq ⟨some 20, none, (.ofA (.faddr 3 (.tmp 3)))⟩
  (.seq ⟨some 21, none, (.ofA (.load none (.tmp 20)))⟩
  (.seq ⟨some 22, none, (.call (.cst (.fn 242 [])) [(.tmp 19), (.tmp 21)])⟩
  (.seq ⟨some 4, none, (.ofA (.mv (.tmp 22)))⟩
  .done))))))
 .ret)
 (.seq (.tree (.seq ⟨some 24, none, (.ofA (.bin .eql (.tmp 8) (.cst (.v (.int .i64 7)))))⟩
  (.seq ⟨some 23, none, (.ofA (.mv (.tmp 24)))⟩
  .done)))
 (.cond (.tmp 23)
 (.seq (.tree (.seq ⟨some 25, none, (.ofA (.mv (.tmp 0)))⟩
  (.seq ⟨some 26, none, (.ofA (.load (some 8) (.tmp 3)))⟩
  (.seq ⟨some 27, none, (.call (.cst (.fn 243 [])) [(.tmp 25), (.tmp 26)])⟩
  (.seq ⟨some 4, none, (.ofA (.mv (.tmp 27)))⟩
  .done)))))
 .ret)
 (.seq (.tree (.seq ⟨some 29, none, (.ofA (.bin .eql (.tmp 8) (.cst (.v (.int .i64 8)))))⟩
  (.seq ⟨some 28, none, (.ofA (.mv (.tmp 29)))⟩
  .done)))
 (.cond (.tmp 28)
 (.seq (.tree (.seq ⟨some 30, none, (.ofA (.mv (.tmp 0)))⟩
  (.seq ⟨some 31, none, (.ofA (.faddr 3 (.tmp 3)))⟩
  (.seq ⟨some 32, none, (.ofA (.load none (.tmp 31)))⟩
  (.seq ⟨some 33, none, (.call (.cst (.fn 34 [])) [(.tmp 30), (.tmp 32)])⟩
  (.seq ⟨some 4, none, (.ofA (.mv (.tmp 33)))⟩
  .done))))))
 .ret)
 .skip))))))))))
 (.seq (.tree (.seq ⟨some 35, none, (.ofA (.mv (.tmp 0)))⟩
  (.seq ⟨some 36, none, (.ofA (.load (some 8) (.tmp 3)))⟩
  (.seq ⟨some 37, none, (.call (.cst (.fn 244 [])) [(.tmp 35), (.tmp 36)])⟩
  (.seq ⟨some 34, none, (.ofA (.mv (.tmp 37)))⟩
  (.seq ⟨some 38, none, (.ofA (.extract 0 (.tmp 34)))⟩
  (.seq ⟨some 39, none, (.ofA (.extract 1 (.tmp 34)))⟩
  (.seq ⟨some 5, none, (.ofA (.mv (.tmp 38)))⟩
  (.seq ⟨some 6, none, (.ofA (.mv (.tmp 39)))⟩
  .done)))))))))
 (.seq (.tree (.seq ⟨some 40, none, (.ofA (.mv (.tmp 5)))⟩
  (.seq ⟨some 4, none, (.ofA (.mv (.tmp 40)))⟩
  .done)))
 .ret))))
def r207 : List XR := [.tmp 4]
theorem fn207 : FnX Tryz.prog 207 EFF 41 x207 r207 := ⟨_, Tryz.func207, by kernel_rfl, by kernel_rfl, by kernel_rfl, by kernel_rfl⟩
-- almshouse/frame.Open (1 parameters)
def x208 : XC := (.seq (.tree (.seq ⟨some 2, none, (.ofA (.mv (.cst (.v (.int .i64 0)))))⟩
  (.seq ⟨some 3, none, (.ofA (.mv (.cst (.v (.slice none 0 0)))))⟩
  (.seq ⟨some 4, none, (.ofA (.mv (.cst (.v (.int .i64 0)))))⟩
  (.seq ⟨some 5, none, (.ofA (.mv (.cst (.v (.int .i64 0)))))⟩
  .done)))))
 (.seq (.tree (.seq ⟨some 9, none, (.ofA (.mv (.tmp 0)))⟩
  (.seq ⟨some 10, none, (.call (.cst (.fn 171 [])) [(.tmp 9)])⟩
  (.seq ⟨some 6, none, (.ofA (.mv (.tmp 10)))⟩
  .done))))
 (.seq (.tree (.seq ⟨some 11, none, (.ofA (.mv (.tmp 6)))⟩
  (.seq ⟨some 12, none, (.call (.cst (.fn 172 [])) [(.tmp 11), (.cst (.v (.int .i64 1)))])⟩
  (.seq ⟨some 2, none, (.ofA (.mv (.tmp 12)))⟩
  .done))))
 (.seq (.tree (.seq ⟨some 13, none, (.ofA (.mv (.tmp 6)))⟩
  (.seq ⟨some 14, none, (.call (.cst (.fn 172 [])) [(.tmp 13), (.cst (.v (.int .i64 2)))])⟩
  (.seq ⟨some 7, none, (.ofA (.mv (.tmp 14)))⟩
  .done))))
 (.seq (.seq (.tree (.seq ⟨some 15, none, (.ofA (.mv (.tmp 6)))⟩
  (.seq ⟨some 16, none, (.call (.cst (.fn 245 [])) [(.tmp 15)])⟩
  (.seq ⟨some 17, none, (.ofA (.mv (.tmp 7)))⟩
  (.seq ⟨some 18, none, (.ofA (.bin .add (.tmp 17) (.cst (.v (.int .i64 4)))))⟩
  (.seq ⟨some 19, none, (.ofA (.bin .lss (.tmp 16) (.tmp 18)))⟩
  (.seq ⟨some 20, none, (.ofA (.mv (.tmp 19)))⟩
  (.seq ⟨some 21, some (20, false), (.ofA (.mv (.tmp 0)))⟩
  (.seq ⟨some 22, some (20, false), (.ofA (.len (.tmp 21)))⟩
  (.seq ⟨some 23, some (20, false), (.ofA (.bin .lss (.tmp 22) (.cst (.v (.int .i64 3)))))⟩
  (.seq ⟨some 24, none, (.ofA (.pick (.tmp 20) (.cst (.v (.bool true))) (.tmp 23)))⟩
  .done)))))))))))
 (.cond (.tmp 24)
 (.seq (.tree (.seq ⟨some 2, none, (.ofA (.mv (.cst (.v (.int .i64 0)))))⟩
  (.seq ⟨some 3, none, (.ofA (.mv (.cst (.v (.slice none 0 0)))))⟩
  (.seq ⟨some 4, none, (.ofA (.mv (.cst (.v (.int .i64 0)))))⟩
  (.seq ⟨some 5, none, (.ofA (.mv (.cst (.v (.int .i64 2)))))⟩
  .done)))))
 .ret)
 .skip))
 (.seq (.tree (.seq ⟨some 25, none, (.ofA (.mv (.tmp 7)))⟩
  (.seq ⟨some 26, none, (.ofA (.bin .add (.cst (.v (.int .i64 3))) (.tmp 25)))⟩
  (.seq ⟨some 8, none, (.ofA (.mv (.tmp 26)))⟩
  .done))))
 (.seq (.seq (.tree (.take ⟨some 27, none, (.ofA (.mv (.tmp 0)))⟩
  (.take ⟨some 28, none, (.ofA (.mv (.tmp 8)))⟩
  (.take ⟨some 29, none, (.ofA (.slc 1 (.tmp 27) (some (.tmp 28)) none))⟩
  (.take ⟨some 32, none, (.ofA (.mv (.tmp 0)))⟩
  (.take ⟨some 33, none, (.ofA (.mv (.tmp 8)))⟩
  (.take ⟨some 34, none, (.ofA (.slc 1 (.tmp 32) none (some (.tmp 33))))⟩
  (.alt [true] [(⟨some 30, none, (.call (.cst (.fn 171 [])) [(.tmp 29)])⟩,
 (.alt [false] [(⟨some 31, none, (.call (.cst (.fn 172 [])) [(.tmp 30), (.cst (.v (.int .i64 4)))])⟩,
 (.alt [true] [(⟨some 35, none, (.call (.cst (.fn 246 [])) [(.tmp 34)])⟩,
 (.take ⟨some 36, none, (.ofA (.conv .i64 (.tmp 35)))⟩
  (.take ⟨some 37, none, (.ofA (.bin .neq (.tmp 31) (.tmp 36)))⟩
  .done)))]))]))]))))))))
 (.cond (.tmp 37)
 (.seq (.tree (.seq ⟨some 2, none, (.ofA (.mv (.cst (.v (.int .i64 0)))))⟩
  (.seq ⟨some 3, none, (.ofA (.mv (.cst (.v (.slice none 0 0)))))⟩
  (.seq ⟨some 4, none, (.ofA (.mv (.cst (.v (.int .i64 0)))))⟩
  (.seq ⟨some 5, none, (.ofA (.mv (.cst (.v (.int .i64 14)))))⟩
  .done)))))
 .ret)
 .skip))
 (.seq (.tree (.seq ⟨some 38, none, (.ofA (.mv (.tmp 2)))⟩
  (.seq ⟨some 39, none, (.ofA (.mv (.tmp 0)))⟩
  (.seq ⟨some 40, none, (.ofA (.mv (.tmp 8)))⟩
  (.seq ⟨some 41, none, (.ofA (.slc 1 (.tmp 39) (some (.cst (.v (.int .i64 3)))) (some (.tmp 40))))⟩
  (.seq ⟨some 42, none, (.call (.cst (.fn 169 [])) [(.tmp 41)])⟩
  (.seq ⟨some 43, none, (.ofA (.mv (.tmp 8)))⟩
  (.seq ⟨some 44, none, (.ofA (.bin .add (.tmp 43) (.cst (.v (.int .i64 4)))))⟩
  (.seq ⟨some 2, none, (.ofA (.mv (.tmp 38)))⟩
  (.seq ⟨some 3, none, (.ofA (.mv (.tmp 42)))⟩
  (.seq ⟨some 4, none, (.ofA (.mv (.tmp 44)))⟩
  (.seq ⟨some 5, none, (.ofA (.mv (.cst (.v (.int .i64 0)))))⟩
  .done))))))))))))
 .ret))))))))
def r208 : List XR := [.tmp 2, .tmp 3, .tmp 4, .tmp 5]
theorem fn208 : FnX Tryz.prog 208 EFF 45 x208 r208 := ⟨_, Tryz.func208, by kernel_rfl, by kernel_rfl, by kernel_rfl, by kernel_rfl⟩
-- almshouse/word.sized (1 parameters)
def x209 : XC := (.seq (.tree (.seq ⟨some 2, none, (.ofA (.mv (.cst (.v (.bool false)))))⟩
  .done))
 (.seq (.tree (.seq ⟨some 3, none, (.ofA (.mv (.tmp 0)))⟩
  (.seq ⟨some 4, none, (.ofA (.bin .eql (.tmp 3) (.cst (.v (.int .i64 1)))))⟩
  (.seq ⟨some 5, none, (.ofA (.mv (.tmp 4)))⟩
  (.seq ⟨some 6, some (5, false), (.ofA (.mv (.tmp 0)))⟩
  (.seq ⟨some 7, some (5, false), (.ofA (.bin .eql (.tmp 6) (.cst (.v (.int .i64 2)))))⟩
  (.seq ⟨some 8, none, (.ofA (.pick (.tmp 5) (.cst (.v (.bool true))) (.tmp 7)))⟩
  (.seq ⟨some 9, none, (.ofA (.mv (.tmp 8)))⟩
  (.seq ⟨some 10, some (9, false), (.ofA (.mv (.tmp 0)))⟩
  (.seq ⟨some 11, some (9, false), (.ofA (.bin .eql (.tmp 10) (.cst (.v (.int .i64 4)))))⟩
  (.seq ⟨some 12, none, (.ofA (.pick (.tmp 9) (.cst (.v (.bool true))) (.tmp 11)))⟩
  (.seq ⟨some 2, none, (.ofA (.mv (.tmp 12)))⟩
  .done))))))))))))
 .ret))
def r209 : List XR := [.tmp 2]
theorem fn209 : FnX Tryz.prog 209 EFF 13 x209 r209 := ⟨_, Tryz.func209, by kernel_rfl, by kernel_rfl, by kernel_rfl, by kernel_rfl⟩
-- (*almshouse/word.Reader).next (2 parameters)
def x211 : XC := (.seq (.tree (.seq ⟨some 4, none, (.ofA (.mv (.cst (.v (.slice none 0 0)))))⟩
  .done))
 (.seq (.seq (.tree (.seq ⟨some 6, none, (.ofA (.mv (.tmp 0)))⟩
  (.seq ⟨some 7, none, (.ofA (.nilc (.tmp 6)))⟩
  (.seq ⟨some 8, none, (.ofA (.faddr 1 (.tmp 7)))⟩
  (.seq ⟨some 9, none, (.ofA (.load none (.tmp 8)))⟩
  (.seq ⟨some 10, none, (.ofA (.bin .neq (.tmp 9) (.cst (.v (.int .i64 0)))))⟩
  (.seq ⟨some 11, none, (.ofA (.mv (.tmp 10)))⟩
  (.seq ⟨some 12, some (11, false), (.ofA (.mv (.tmp 1)))⟩
  (.seq ⟨some 13, some (11, false), (.ofA (.mv (.tmp 0)))⟩
  (.seq ⟨some 14, some (11, false), (.ofA (.nilc (.tmp 13)))⟩
  (.seq ⟨some 15, some (11, false), (.ofA (.faddr 0 (.tmp 14)))⟩
  (.seq ⟨some 16, some (11, false), (.ofA (.load none (.tmp 15)))⟩
  (.seq ⟨some 17, some (11, false), (.ofA (.len (.tmp 16)))⟩
  (.seq ⟨some 18, some (11, false), (.ofA (.bin .gtr (.tmp 12) (.tmp 17)))⟩
  (.seq ⟨some 19, some (11, false), (.ofA (.mv (.tmp 18)))⟩
  (.seq ⟨some 20, some (19, true), (.ofA (.mv (.tmp 0)))⟩
  (.seq ⟨some 21, some (19, true), (.call (.cst (.fn 210 [])) [(.tmp 20), (.cst (.v (.int .i64 2)))])⟩
  (.seq ⟨some 22, some (11, false), (.ofA (.pick (.tmp 19) (.tmp 21) (.cst (.v (.bool false)))))⟩
  (.seq ⟨some 23, none, (.ofA (.pick (.tmp 11) (.cst (.v (.bool true))) (.tmp 22)))⟩
  .done)))))))))))))))))))
 (.cond (.tmp 23)
 (.seq (.tree (.seq ⟨some 4, none, (.ofA (.mv (.cst (.v (.slice none 0 0)))))⟩
  .done))
 .ret)
 .skip))
 (.seq (.tree (.seq ⟨some 24, none, (.ofA (.mv (.tmp 0)))⟩
  (.seq ⟨some 25, none, (.ofA (.nilc (.tmp 24)))⟩
  (.seq ⟨some 26, none, (.ofA (.faddr 0 (.tmp 25)))⟩
  (.seq ⟨some 27, none, (.ofA (.load none (.tmp 26)))⟩
  (.seq ⟨some 28, none, (.ofA (.mv (.tmp 1)))⟩
  (.seq ⟨some 29, none, (.ofA (.mv (.tmp 1)))⟩
  (.seq ⟨some 30, none, (.ofA (.slc3 1 (.tmp 27) none (.tmp 28) (.tmp 29)))⟩
  (.seq ⟨some 5, none, (.ofA (.mv (.tmp 30)))⟩
  .done)))))))))
 (.seq (.tree (.seq ⟨some 31, none, (.ofA (.mv (.tmp 0)))⟩
  (.seq ⟨some 32, none, (.ofA (.mv (.tmp 0)))⟩
  (.seq ⟨some 33, none, (.ofA (.nilc (.tmp 32)))⟩
  (.seq ⟨some 34, none, (.ofA (.faddr 0 (.tmp 33)))⟩
  (.seq ⟨some 35, none, (.ofA (.load none (.tmp 34)))⟩
  (.seq ⟨some 36, none, (.ofA (.mv (.tmp 1)))⟩
  (.seq ⟨some 37, none, (.ofA (.slc 1 (.tmp 35) (some (.tmp 36)) none))⟩
  (.seq ⟨some 38, none, (.ofA (.nilc (.tmp 31)))⟩
  (.seq ⟨some 39, none, (.ofA (.faddr 0 (.tmp 38)))⟩
  (.seq ⟨none, none, (.store 1 (.tmp 39) (.tmp 37))⟩
  .done)))))))))))
 (.seq (.tree (.seq ⟨some 40, none, (.ofA (.mv (.tmp 5)))⟩
  (.seq ⟨some 4, none, (.ofA (.mv (.tmp 40)))⟩
  .done)))
 .ret)))))
def r211 : List XR := [.tmp 4]
theorem fn211 : FnX Tryz.prog 211 EFF 41 x211 r211 := ⟨_, Tryz.func211, by kernel_rfl, by kernel_rfl, by kernel_rfl, by kernel_rfl⟩
-- almshouse/tag.within (2 parameters)
def x212 : XC := (.seq (.tree (.seq ⟨some 4, none, (.ofA (.mv (.cst (.v (.bool false)))))⟩
  .done))
 (.seq (.tree (.seq ⟨some 5, none, (.ofA (.mv (.tmp 0)))⟩
  (.seq ⟨some 6, none, (.ofA (.bin .geq (.tmp 5) (.cst (.v (.int .i64 0)))))⟩
  (.seq ⟨some 7, none, (.ofA (.mv (.tmp 6)))⟩
  (.seq ⟨some 8, some (7, true), (.ofA (.mv (.tmp 0)))⟩
  (.seq ⟨some 9, some (7, true), (.ofA (.mv (.tmp 1)))⟩
  (.seq ⟨some 10, some (7, true), (.ofA (.bin .leq (.tmp 8) (.tmp 9)))⟩
  (.seq ⟨some 11, none, (.ofA (.pick (.tmp 7) (.tmp 10) (.cst (.v (.bool false)))))⟩
  (.seq ⟨some 4, none, (.ofA (.mv (.tmp 11)))⟩
  .done)))))))))
 .ret))
def r212 : List XR := [.tmp 4]
theorem fn212 : FnX Tryz.prog 212 EFF 12 x212 r212 := ⟨_, Tryz.func212, by kernel_rfl, by kernel_rfl, by kernel_rfl, by kernel_rfl⟩
-- almshouse/word.Put (3 parameters)
def x214 : XC := (.seq (.tree (.seq ⟨some 6, none, (.ofA (.mv (.cst (.v (.slice none 0 0)))))⟩
  .done))
 (.seq (.tree (.seq ⟨some 8, none, (.ofA (.mv (.tmp 0)))⟩
  (.seq ⟨some 9, none, (.call (.cst (.fn 169 [])) [(.tmp 8)])⟩
  (.seq ⟨some 10, none, (.call (.cst (.fn 247 [])) [(.tmp 9)])⟩
  (.seq ⟨some 7, none, (.ofA (.mv (.tmp 10)))⟩
  .done)))))
 (.seq (.seq (.tree (.seq ⟨some 11, none, (.ofA (.mv (.tmp 1)))⟩
  (.seq ⟨some 12, none, (.ofA (.mv (.tmp 2)))⟩
  (.seq ⟨some 13, none, (.call (.cst (.fn 248 [])) [(.tmp 11), (.tmp 12)])⟩
  (.seq ⟨some 14, none, (.ofA (.un .not (.tmp 13)))⟩
  .done)))))
 (.cond (.tmp 14)
 (.seq (.tree (.seq ⟨some 15, none, (.ofA (.mv (.tmp 7)))⟩
  (.seq ⟨some 6, none, (.ofA (.mv (.tmp 15)))⟩
  .done)))
 .ret)
 .skip))
 (.seq (.seq (.tree (.seq ⟨some 16, none, (.ofA (.mv (.tmp 2)))⟩
  (.seq ⟨some 17, none, (.ofA (.mv (.cst (.v (.int .i64 0)))))⟩
  .done)))
 (.block 0 (.loop (.seq (.tree (.seq ⟨some 18, none, (.ofA (.bin .lss (.tmp 17) (.tmp 16)))⟩
  .done))
 (.seq (.cond (.tmp 18)
 .skip
 (.exit 0))
 (.seq (.block 1 (.seq (.tree (.seq ⟨some 19, none, (.ofA (.mv (.tmp 7)))⟩
  (.seq ⟨some 20, none, (.ofA (.mv (.tmp 1)))⟩
  (.seq ⟨some 21, none, (.ofA (.conv .u8 (.tmp 20)))⟩
  (.seq ⟨some 22, none, (.buildSl 1 1 [(.v (.int .u8 0))] [(0, 1, (.tmp 21))])⟩
  (.seq ⟨some 23, none, (.app 1 1 (.tmp 19) (.tmp 22))⟩
  (.seq ⟨some 7, none, (.ofA (.mv (.tmp 23)))⟩
  .done)))))))
 (.tree (.seq ⟨some 24, none, (.ofA (.mv (.tmp 1)))⟩
  (.seq ⟨some 25, none, (.ofA (.bin .shr (.tmp 24) (.cst (.v (.int .u64 8)))))⟩
  (.seq ⟨some 1, none, (.ofA (.mv (.tmp 25)))⟩
  .done))))))
 (.tree (.seq ⟨some 26, none, (.ofA (.bin .add (.tmp 17) (.cst (.v (.int .i64 1)))))⟩
  (.seq ⟨some 17, none, (.ofA (.mv (.tmp 26)))⟩
  .done)))))))))
 (.seq (.tree (.seq ⟨some 27, none, (.ofA (.mv (.tmp 7)))⟩
  (.seq ⟨some 6, none, (.ofA (.mv (.tmp 27)))⟩
  .done)))
 .ret)))))
def r214 : List XR := [.tmp 6]
theorem fn214 : FnX Tryz.prog 214 EFF 28 x214 r214 := ⟨_, Tryz.func214, by kernel_rfl, by kernel_rfl, by kernel_rfl, by kernel_rfl⟩
-- almshouse/frame.Make (2 parameters)
def x215 : XC := (.seq (.tree (.seq ⟨some 4, none, (.ofA (.mv (.cst (.v (.slice none 0 0)))))⟩
  (.seq ⟨some 5, none, (.ofA (.mv (.cst (.v (.int .i64 0)))))⟩
  .done)))
 (.seq (.block 0 (.seq (.tree (.seq ⟨some 8, none, (.ofA (.mv (.tmp 0)))⟩
  (.seq ⟨some 9, none, (.call (.cst (.fn 248 [])) [(.tmp 8), (.cst (.v (.int .i64 1)))])⟩
  (.seq ⟨some 10, none, (.ofA (.un .not (.tmp 9)))⟩
  (.seq ⟨some 7, none, (.ofA (.mv (.tmp 10)))⟩
  .done)))))
 (.cond (.tmp 7)
 (.seq (.tree (.seq ⟨some 4, none, (.ofA (.mv (.cst (.v (.slice none 0 0)))))⟩
  (.seq ⟨some 5, none, (.ofA (.mv (.cst (.v (.int .i64 1)))))⟩
  .done)))
 .ret)
 (.seq (.tree (.seq ⟨some 12, none, (.ofA (.mv (.tmp 1)))⟩
  (.seq ⟨some 13, none, (.ofA (.len (.tmp 12)))⟩
  (.seq ⟨some 14, none, (.ofA (.bin .gtr (.tmp 13) (.cst (.v (.int .i64 65535)))))⟩
  (.seq ⟨some 11, none, (.ofA (.mv (.tmp 14)))⟩
  .done)))))
 (.cond (.tmp 11)
 (.seq (.tree (.seq ⟨some 4, none, (.ofA (.mv (.cst (.v (.slice none 0 0)))))⟩
  (.seq ⟨some 5, none, (.ofA (.mv (.cst (.v (.int .i64 3)))))⟩
  .done)))
 .ret)
 .skip)))))
 (.seq (.tree (.seq ⟨some 15, none, (.ofA (.mv (.tmp 0)))⟩
  (.seq ⟨some 16, none, (.call (.cst (.fn 214 [])) [(.cst (.v (.slice none 0 0))), (.tmp 15), (.cst (.v (.int .i64 1)))])⟩
  (.seq ⟨some 17, none, (.ofA (.mv (.tmp 1)))⟩
  (.seq ⟨some 18, none, (.ofA (.len (.tmp 17)))⟩
  (.seq ⟨some 19, none, (.call (.cst (.fn 214 [])) [(.tmp 16), (.tmp 18), (.cst (.v (.int .i64 2)))])⟩
  (.seq ⟨some 20, none, (.ofA (.mv (.tmp 1)))⟩
  (.seq ⟨some 21, none, (.app 1 1 (.tmp 19) (.tmp 20))⟩
  (.seq ⟨some 6, none, (.ofA (.mv (.tmp 21)))⟩
  .done)))))))))
 (.seq (.tree (.seq ⟨some 22, none, (.ofA (.mv (.tmp 6)))⟩
  (.seq ⟨some 23, none, (.ofA (.mv (.tmp 6)))⟩
  (.seq ⟨some 24, none, (.call (.cst (.fn 246 [])) [(.tmp 23)])⟩
  (.seq ⟨some 25, none, (.ofA (.conv .i64 (.tmp 24)))⟩
  (.seq ⟨some 26, none, (.call (.cst (.fn 214 [])) [(.tmp 22), (.tmp 25), (.cst (.v (.int .i64 4)))])⟩
  (.seq ⟨some 4, none, (.ofA (.mv (.tmp 26)))⟩
  (.seq ⟨some 5, none, (.ofA (.mv (.cst (.v (.int .i64 0)))))⟩
  .done))))))))
 .ret))))
def r215 : List XR := [.tmp 4, .tmp 5]
theorem fn215 : FnX Tryz.prog 215 EFF 27 x215 r215 := ⟨_, Tryz.func215, by kernel_rfl, by kernel_rfl, by kernel_rfl, by kernel_rfl⟩
-- (*almshouse/nand.Nand).Program$1 (0 parameters)
def x216 : XC := (.seq (.tree (.take ⟨some 2, none, (.ofA (.load none (.tmp 0)))⟩
  (.take ⟨some 3, none, (.ofA (.nilc (.tmp 2)))⟩
  (.take ⟨some 4, none, (.ofA (.faddr 0 (.tmp 3)))⟩
  (.take ⟨some 5, none, (.ofA (.load none (.tmp 4)))⟩
  (.take ⟨some 6, none, (.ofA (.load none (.tmp 1)))⟩
  (.take ⟨some 7, none, (.ofA (.isl 3 (.tmp 5) (.tmp 6)))⟩
  (.take ⟨some 8, none, (.ofA (.faddr 0 (.tmp 7)))⟩
  (.alt [false] [(⟨none, none, (.store 1 (.tmp 8) (.cst (.v (.int .i64 2))))⟩,
 .done)])))))))))
 (.tree (.seq ⟨some 9, none, (.ofA (.load none (.tmp 0)))⟩
  (.seq ⟨some 10, none, (.ofA (.load none (.tmp 1)))⟩
  (.seq ⟨some 11, none, (.ofA (.bin .add (.tmp 10) (.cst (.v (.int .i64 1)))))⟩
  (.seq ⟨some 12, none, (.ofA (.nilc (.tmp 9)))⟩
  (.seq ⟨some 13, none, (.ofA (.faddr 1 (.tmp 12)))⟩
  (.seq ⟨none, none, (.store 1 (.tmp 13) (.tmp 11))⟩
  .done))))))))
def r216 : List XR := []
theorem fn216 : FnX Tryz.prog 216 EFF 14 x216 r216 := ⟨_, Tryz.func216, by kernel_rfl, by kernel_rfl, by kernel_rfl, by kernel_rfl⟩
-- slices.insertionSortOrdered[int] (3 parameters)
def x217 : XC := (.seq (.tree (.seq ⟨some 8, none, (.ofA (.mv (.tmp 1)))⟩
  (.seq ⟨some 9, none, (.ofA (.bin .add (.tmp 8) (.cst (.v (.int .i64 1)))))⟩
  (.seq ⟨some 6, none, (.ofA (.mv (.tmp 9)))⟩
  .done))))
 (.block 0 (.loop (.seq (.seq (.tree (.seq ⟨some 10, none, (.ofA (.mv (.tmp 6)))⟩
  (.seq ⟨some 11, none, (.ofA (.mv (.tmp 2)))⟩
  (.seq ⟨some 12, none, (.ofA (.bin .lss (.tmp 10) (.tmp 11)))⟩
  .done))))
 (.cond (.tmp 12)
 .skip
 (.exit 0)))
 (.seq (.block 1 (.seq (.tree (.seq ⟨some 15, none, (.ofA (.mv (.tmp 6)))⟩
  (.seq ⟨some 7, none, (.ofA (.mv (.tmp 15)))⟩
  .done)))
 (.block 2 (.loop (.seq (.seq (.tree (.take ⟨some 16, none, (.ofA (.mv (.tmp 7)))⟩
  (.take ⟨some 17, none, (.ofA (.mv (.tmp 1)))⟩
  (.take ⟨some 18, none, (.ofA (.bin .gtr (.tmp 16) (.tmp 17)))⟩
  (.take ⟨some 19, none, (.ofA (.mv (.tmp 18)))⟩
  (.take ⟨some 20, some (19, true), (.ofA (.mv (.tmp 0)))⟩
  (.take ⟨some 21, some (19, true), (.ofA (.mv (.tmp 7)))⟩
  (.take ⟨some 22, some (19, true), (.ofA (.isl 1 (.tmp 20) (.tmp 21)))⟩
  (.take ⟨some 23, some (19, true), (.ofA (.load none (.tmp 22)))⟩
  (.take ⟨some 24, some (19, true), (.ofA (.mv (.tmp 0)))⟩
  (.take ⟨some 25, some (19, true), (.ofA (.mv (.tmp 7)))⟩
  (.take ⟨some 26, some (19, true), (.ofA (.bin .sub (.tmp 25) (.cst (.v (.int .i64 1)))))⟩
  (.take ⟨some 27, some (19, true), (.ofA (.isl 1 (.tmp 24) (.tmp 26)))⟩
  (.take ⟨some 28, some (19, true), (.ofA (.load none (.tmp 27)))⟩
  (.act true [(⟨some 29, some (19, true), (.call (.cst (.fn 223 [])) [(.tmp 23), (.tmp 28)])⟩,
 (.take ⟨some 30, none, (.ofA (.pick (.tmp 19) (.tmp 29) (.cst (.v (.bool false)))))⟩
  .done))])))))))))))))))
 (.cond (.tmp 30)
 .skip
 (.exit 2)))
 (.seq (.block 3 (.tree (.take ⟨some 33, none, (.ofA (.mv (.tmp 0)))⟩
  (.take ⟨some 34, none, (.ofA (.mv (.tmp 7)))⟩
  (.take ⟨some 35, none, (.ofA (.mv (.tmp 0)))⟩
  (.take ⟨some 36, none, (.ofA (.mv (.tmp 7)))⟩
  (.take ⟨some 37, none, (.ofA (.bin .sub (.tmp 36) (.cst (.v (.int .i64 1)))))⟩
  (.take ⟨some 38, none, (.ofA (.mv (.tmp 0)))⟩
  (.take ⟨some 39, none, (.ofA (.mv (.tmp 7)))⟩
  (.take ⟨some 40, none, (.ofA (.bin .sub (.tmp 39) (.cst (.v (.int .i64 1)))))⟩
  (.take ⟨some 41, none, (.ofA (.isl 1 (.tmp 38) (.tmp 40)))⟩
  (.take ⟨some 42, none, (.ofA (.load none (.tmp 41)))⟩
  (.take ⟨some 43, none, (.ofA (.mv (.tmp 0)))⟩
  (.take ⟨some 44, none, (.ofA (.mv (.tmp 7)))⟩
  (.take ⟨some 45, none, (.ofA (.isl 1 (.tmp 43) (.tmp 44)))⟩
  (.take ⟨some 46, none, (.ofA (.load none (.tmp 45)))⟩
  (.take ⟨some 47, none, (.ofA (.isl 1 (.tmp 33) (.tmp 34)))⟩
  (.alt [false] [(⟨none, none, (.store 1 (.tmp 47) (.tmp 42))⟩,
 (.take ⟨some 48, none, (.ofA (.isl 1 (.tmp 35) (.tmp 37)))⟩
  (.alt [false] [(⟨none, none, (.store 1 (.tmp 48) (.tmp 46))⟩,
 .done)])))]))))))))))))))))))
 (.tree (.seq ⟨some 31, none, (.ofA (.mv (.tmp 7)))⟩
  (.seq ⟨some 32, none, (.ofA (.bin .sub (.tmp 31) (.cst (.v (.int .i64 1)))))⟩
  (.seq ⟨some 7, none, (.ofA (.mv (.tmp 32)))⟩
  .done))))))))))
 (.tree (.seq ⟨some 13, none, (.ofA (.mv (.tmp 6)))⟩
  (.seq ⟨some 14, none, (.ofA (.bin .add (.tmp 13) (.cst (.v (.int .i64 1)))))⟩
  (.seq ⟨some 6, none, (.ofA (.mv (.tmp 14)))⟩
  .done)))))))))
def r217 : List XR := []
theorem fn217 : FnX Tryz.prog 217 EFF 49 x217 r217 := ⟨_, Tryz.func217, by kernel_rfl, by kernel_rfl, by kernel_rfl, by kernel_rfl⟩
-- slices.heapSortOrdered[int] (3 parameters)
def x218 : XC := (.seq (.tree (.seq ⟨some 11, none, (.ofA (.mv (.tmp 1)))⟩
  (.seq ⟨some 6, none, (.ofA (.mv (.tmp 11)))⟩
  .done)))
 (.seq (.tree (.seq ⟨some 7, none, (.ofA (.mv (.cst (.v (.int .i64 0)))))⟩
  .done))
 (.seq (.tree (.seq ⟨some 12, none, (.ofA (.mv (.tmp 2)))⟩
  (.seq ⟨some 13, none, (.ofA (.mv (.tmp 1)))⟩
  (.seq ⟨some 14, none, (.ofA (.bin .sub (.tmp 12) (.tmp 13)))⟩
  (.seq ⟨some 8, none, (.ofA (.mv (.tmp 14)))⟩
  .done)))))
 (.seq (.seq (.tree (.seq ⟨some 15, none, (.ofA (.mv (.tmp 8)))⟩
  (.seq ⟨some 16, none, (.ofA (.bin .sub (.tmp 15) (.cst (.v (.int .i64 1)))))⟩
  (.seq ⟨some 17, none, (.ofA (.bin .quo (.tmp 16) (.cst (.v (.int .i64 2)))))⟩
  (.seq ⟨some 9, none, (.ofA (.mv (.tmp 17)))⟩
  .done)))))
 (.block 0 (.loop (.seq (.seq (.tree (.seq ⟨some 18, none, (.ofA (.mv (.tmp 9)))⟩
  (.seq ⟨some 19, none, (.ofA (.bin .geq (.tmp 18) (.cst (.v (.int .i64 0)))))⟩
  .done)))
 (.cond (.tmp 19)
 .skip
 (.exit 0)))
 (.seq (.block 1 (.tree (.seq ⟨some 22, none, (.ofA (.mv (.tmp 0)))⟩
  (.seq ⟨some 23, none, (.ofA (.mv (.tmp 9)))⟩
  (.seq ⟨some 24, none, (.ofA (.mv (.tmp 8)))⟩
  (.seq ⟨some 25, none, (.ofA (.mv (.tmp 6)))⟩
  (.seq ⟨some 26, none, (.call (.cst (.fn 249 [])) [(.tmp 22), (.tmp 23), (.tmp 24), (.tmp 25)])⟩
  .done)))))))
 (.tree (.seq ⟨some 20, none, (.ofA (.mv (.tmp 9)))⟩
  (.seq ⟨some 21, none, (.ofA (.bin .sub (.tmp 20) (.cst (.v (.int .i64 1)))))⟩
  (.seq ⟨some 9, none, (.ofA (.mv (.tmp 21)))⟩
  .done)))))))))
 (.seq (.tree (.seq ⟨some 27, none, (.ofA (.mv (.tmp 8)))⟩
  (.seq ⟨some 28, none, (.ofA (.bin .sub (.tmp 27) (.cst (.v (.int .i64 1)))))⟩
  (.seq ⟨some 10, none, (.ofA (.mv (.tmp 28)))⟩
  .done))))
 (.block 2 (.loop (.seq (.seq (.tree (.seq ⟨some 29, none, (.ofA (.mv (.tmp 10)))⟩
  (.seq ⟨some 30, none, (.ofA (.bin .geq (.tmp 29) (.cst (.v (.int .i64 0)))))⟩
  .done)))
 (.cond (.tmp 30)
 .skip
 (.exit 2)))
 (.seq (.block 3 (.seq (.tree (.take ⟨some 33, none, (.ofA (.mv (.tmp 0)))⟩
  (.take ⟨some 34, none, (.ofA (.mv (.tmp 6)))⟩
  (.take ⟨some 35, none, (.ofA (.mv (.tmp 0)))⟩
  (.take ⟨some 36, none, (.ofA (.mv (.tmp 6)))⟩
  (.take ⟨some 37, none, (.ofA (.mv (.tmp 10)))⟩
  (.take ⟨some 38, none, (.ofA (.bin .add (.tmp 36) (.tmp 37)))⟩
  (.take ⟨some 39, none, (.ofA (.mv (.tmp 0)))⟩
  (.take ⟨some 40, none, (.ofA (.mv (.tmp 6)))⟩
  (.take ⟨some 41, none, (.ofA (.mv (.tmp 10)))⟩
  (.take ⟨some 42, none, (.ofA (.bin .add (.tmp 40) (.tmp 41)))⟩
  (.take ⟨some 43, none, (.ofA (.isl 1 (.tmp 39) (.tmp 42)))⟩
  (.take ⟨some 44, none, (.ofA (.load none (.tmp 43)))⟩
  (.take ⟨some 45, none, (.ofA (.mv (.tmp 0)))⟩
  (.take ⟨some 46, none, (.ofA (.mv (.tmp 6)))⟩
  (.take ⟨some 47, none, (.ofA (.isl 1 (.tmp 45) (.tmp 46)))⟩
  (.take ⟨some 48, none, (.ofA (.load none (.tmp 47)))⟩
  (.take ⟨some 49, none, (.ofA (.isl 1 (.tmp 33) (.tmp 34)))⟩
  (.alt [false] [(⟨none, none, (.store 1 (.tmp 49) (.tmp 44))⟩,
 (.take ⟨some 50, none, (.ofA (.isl 1 (.tmp 35) (.tmp 38)))⟩
  (.alt [false] [(⟨none, none, (.store 1 (.tmp 50) (.tmp 48))⟩,
 .done)])))])))))))))))))))))))
 (.tree (.seq ⟨some 51, none, (.ofA (.mv (.tmp 0)))⟩
  (.seq ⟨some 52, none, (.ofA (.mv (.tmp 7)))⟩
  (.seq ⟨some 53, none, (.ofA (.mv (.tmp 10)))⟩
  (.seq ⟨some 54, none, (.ofA (.mv (.tmp 6)))⟩
  (.seq ⟨some 55, none, (.call (.cst (.fn 249 [])) [(.tmp 51), (.tmp 52), (.tmp 53), (.tmp 54)])⟩
  .done))))))))
 (.tree (.seq ⟨some 31, none, (.ofA (.mv (.tmp 10)))⟩
  (.seq ⟨some 32, none, (.ofA (.bin .sub (.tmp 31) (.cst (.v (.int .i64 1)))))⟩
  (.seq ⟨some 10, none, (.ofA (.mv (.tmp 32)))⟩
  .done)))))))))))))
def r218 : List XR := []
theorem fn218 : FnX Tryz.prog 218 EFF 56 x218 r218 := ⟨_, Tryz.func218, by kernel_rfl, by kernel_rfl, by kernel_rfl, by kernel_rfl⟩
end Go.Proofs.YtdbjkklhgfhgnaaGreat
