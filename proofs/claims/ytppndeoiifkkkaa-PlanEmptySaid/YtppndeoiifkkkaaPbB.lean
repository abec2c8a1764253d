/- Layer 49 (plan): wishes, met, needs, by symbolic walks. -/
import Derived.Test.YtppndeoiifkkkaaPbA
namespace Go.Proofs.Ytppndeoiifkkkaa
open Go.RowKit Sy
set_option linter.unusedVariables false
set_option linter.unusedSimpArgs false
-- almshouse/almshouselaw49.wishes (1 parameters)
def x46 : XC := (.seq (.tree (.seq ⟨some 1, none, (.box (.tmp 0))⟩
  (.seq ⟨some 2, none, (.alloc [(.v (.int .i64 0)), (.v (.int .i64 0)), (.v (.int .i64 0)), (.v (.int .i64 0)), (.v (.int .i64 0)), (.v (.int .i64 0)), (.v (.int .i64 0)), (.v (.int .i64 0))])⟩
  .done)))
 (.seq (.tree (.seq ⟨some 3, none, (.alloc [(.v (.int .i64 0)), (.v (.int .i64 0)), (.v (.int .i64 0)), (.v (.int .i64 0)), (.v (.int .i64 0)), (.v (.int .i64 0)), (.v (.int .i64 0)), (.v (.int .i64 0))])⟩
  .done))
 (.seq (.seq (.tree (.seq ⟨some 6, none, (.ofA (.load (some 8) (.tmp 1)))⟩
  (.seq ⟨some 7, none, (.ofA (.mv (.cst (.v (.int .i64 0)))))⟩
  .done)))
 (.block 0 (.loop (.seq (.tree (.seq ⟨some 8, none, (.ofA (.bin .lss (.tmp 7) (.cst (.v (.int .i64 4)))))⟩
  .done))
 (.seq (.cond (.tmp 8)
 .skip
 (.exit 0))
 (.seq (.block 1 (.seq (.tree (.seq ⟨some 9, none, (.ofA (.mv (.tmp 7)))⟩
  (.seq ⟨some 10, none, (.ofA (.idx 4 2 true (.tmp 6) (.tmp 7)))⟩
  (.seq ⟨some 5, none, (.alloc [(.v (.int .i64 0)), (.v (.int .i64 0))])⟩
  (.seq ⟨some 4, none, (.ofA (.mv (.tmp 9)))⟩
  (.seq ⟨none, none, (.store 2 (.tmp 5) (.tmp 10))⟩
  .done))))))
 (.tree (.seq ⟨some 11, none, (.ofA (.mv (.tmp 4)))⟩
  (.seq ⟨some 12, none, (.ofA (.faddr 0 (.tmp 5)))⟩
  (.seq ⟨some 13, none, (.ofA (.load none (.tmp 12)))⟩
  (.seq ⟨some 14, none, (.ofA (.faddr 1 (.tmp 5)))⟩
  (.seq ⟨some 15, none, (.ofA (.load none (.tmp 14)))⟩
  (.seq ⟨some 16, none, (.build [(.v (.int .i64 0)), (.v (.int .i64 0))] [(0, 1, (.tmp 13)), (1, 1, (.tmp 15))])⟩
  (.seq ⟨some 17, none, (.ofA (.iarr 4 2 (.tmp 3) (.tmp 11)))⟩
  (.seq ⟨none, none, (.store 2 (.tmp 17) (.tmp 16))⟩
  .done)))))))))))
 (.tree (.seq ⟨some 18, none, (.ofA (.bin .add (.tmp 7) (.cst (.v (.int .i64 1)))))⟩
  (.seq ⟨some 7, none, (.ofA (.mv (.tmp 18)))⟩
  .done)))))))))
 (.seq (.tree (.seq ⟨some 19, none, (.ofA (.load (some 8) (.tmp 3)))⟩
  (.seq ⟨none, none, (.store 8 (.tmp 2) (.tmp 19))⟩
  .done)))
 .ret))))
def r46 : List XR := [.cell 2 (some 8)]
theorem fn46 : FnX Try.prog 46 [] 20 x46 r46 := ⟨_, Try.func46, by kernel_rfl, by kernel_rfl, by kernel_rfl, by kernel_rfl⟩
-- almshouse/plan.Met (2 parameters)
def x47 : XC := (.seq (.tree (.seq ⟨some 2, none, (.box (.tmp 0))⟩
  (.seq ⟨some 3, none, (.box (.tmp 1))⟩
  (.seq ⟨some 4, none, (.ofA (.mv (.cst (.v (.bool false)))))⟩
  .done))))
 (.seq (.seq (.tree (.seq ⟨some 7, none, (.ofA (.faddr 2 (.tmp 2)))⟩
  (.seq ⟨some 8, none, (.ofA (.load (some 20) (.tmp 7)))⟩
  (.seq ⟨some 9, none, (.ofA (.mv (.cst (.v (.int .i64 0)))))⟩
  .done))))
 (.block 0 (.loop (.seq (.tree (.seq ⟨some 10, none, (.ofA (.bin .lss (.tmp 9) (.cst (.v (.int .i64 4)))))⟩
  .done))
 (.seq (.cond (.tmp 10)
 .skip
 (.exit 0))
 (.seq (.block 1 (.seq (.tree (.seq ⟨some 11, none, (.ofA (.mv (.tmp 9)))⟩
  (.seq ⟨some 12, none, (.ofA (.idx 4 5 true (.tmp 8) (.tmp 9)))⟩
  (.seq ⟨some 6, none, (.alloc [(.v (.bool false)), (.v (.int .i64 0)), (.v (.int .i64 0)), (.v (.int .i64 0)), (.v (.slice none 0 0))])⟩
  (.seq ⟨some 5, none, (.ofA (.mv (.tmp 11)))⟩
  (.seq ⟨none, none, (.store 5 (.tmp 6) (.tmp 12))⟩
  .done))))))
 (.block 2 (.seq (.tree (.take ⟨some 14, none, (.ofA (.faddr 0 (.tmp 6)))⟩
  (.take ⟨some 15, none, (.ofA (.load none (.tmp 14)))⟩
  (.take ⟨some 16, none, (.ofA (.mv (.tmp 5)))⟩
  (.take ⟨some 17, none, (.ofA (.iarr 4 2 (.tmp 3) (.tmp 16)))⟩
  (.take ⟨some 18, none, (.ofA (.load (some 2) (.tmp 17)))⟩
  (.act true [(⟨some 19, none, (.call (.cst (.fn 98 [])) [(.tmp 18)])⟩,
 (.take ⟨some 20, none, (.ofA (.eqb true (.tmp 15) (.tmp 19)))⟩
  (.take ⟨some 13, none, (.ofA (.mv (.tmp 20)))⟩
  .done)))])))))))
 (.cond (.tmp 13)
 (.seq (.tree (.seq ⟨some 4, none, (.ofA (.mv (.cst (.v (.bool false)))))⟩
  .done))
 .ret)
 (.seq (.tree (.take ⟨some 22, none, (.ofA (.faddr 0 (.tmp 6)))⟩
  (.take ⟨some 23, none, (.ofA (.load none (.tmp 22)))⟩
  (.take ⟨some 24, none, (.ofA (.mv (.tmp 23)))⟩
  (.take ⟨some 25, some (24, true), (.ofA (.mv (.tmp 5)))⟩
  (.take ⟨some 26, some (24, true), (.ofA (.iarr 4 2 (.tmp 3) (.tmp 25)))⟩
  (.take ⟨some 27, some (24, true), (.ofA (.load (some 2) (.tmp 26)))⟩
  (.take ⟨some 28, some (24, true), (.ofA (.faddr 2 (.tmp 6)))⟩
  (.take ⟨some 29, some (24, true), (.ofA (.load none (.tmp 28)))⟩
  (.take ⟨some 30, some (24, true), (.ofA (.faddr 3 (.tmp 6)))⟩
  (.take ⟨some 31, some (24, true), (.ofA (.load none (.tmp 30)))⟩
  (.act true [(⟨some 32, some (24, true), (.build [(.v (.int .i64 0)), (.v (.int .i64 0))] [(0, 1, (.tmp 29)), (1, 1, (.tmp 31))])⟩,
 (.take ⟨some 33, some (24, true), (.ofA (.eqs true [.int, .int] (.tmp 27) (.tmp 32)))⟩
  (.take ⟨some 34, none, (.ofA (.pick (.tmp 24) (.tmp 33) (.cst (.v (.bool false)))))⟩
  (.take ⟨some 21, none, (.ofA (.mv (.tmp 34)))⟩
  .done))))]))))))))))))
 (.cond (.tmp 21)
 (.seq (.tree (.seq ⟨some 4, none, (.ofA (.mv (.cst (.v (.bool false)))))⟩
  .done))
 .ret)
 .skip)))))))
 (.tree (.seq ⟨some 35, none, (.ofA (.bin .add (.tmp 9) (.cst (.v (.int .i64 1)))))⟩
  (.seq ⟨some 9, none, (.ofA (.mv (.tmp 35)))⟩
  .done)))))))))
 (.seq (.tree (.seq ⟨some 4, none, (.ofA (.mv (.cst (.v (.bool true)))))⟩
  .done))
 .ret)))
def r47 : List XR := [.tmp 4]
theorem fn47 : FnX Try.prog 47 [] 36 x47 r47 := ⟨_, Try.func47, by kernel_rfl, by kernel_rfl, by kernel_rfl, by kernel_rfl⟩
-- almshouse/almshouseref49.Met (2 parameters)
def x48 : XC := (.seq (.tree (.seq ⟨some 2, none, (.box (.tmp 0))⟩
  (.seq ⟨some 3, none, (.box (.tmp 1))⟩
  (.seq ⟨some 4, none, (.ofA (.mv (.cst (.v (.bool false)))))⟩
  .done))))
 (.seq (.seq (.tree (.seq ⟨some 7, none, (.ofA (.faddr 2 (.tmp 2)))⟩
  (.seq ⟨some 8, none, (.ofA (.load (some 20) (.tmp 7)))⟩
  (.seq ⟨some 9, none, (.ofA (.mv (.cst (.v (.int .i64 0)))))⟩
  .done))))
 (.block 0 (.loop (.seq (.tree (.seq ⟨some 10, none, (.ofA (.bin .lss (.tmp 9) (.cst (.v (.int .i64 4)))))⟩
  .done))
 (.seq (.cond (.tmp 10)
 .skip
 (.exit 0))
 (.seq (.block 1 (.seq (.tree (.seq ⟨some 11, none, (.ofA (.mv (.tmp 9)))⟩
  (.seq ⟨some 12, none, (.ofA (.idx 4 5 true (.tmp 8) (.tmp 9)))⟩
  (.seq ⟨some 6, none, (.alloc [(.v (.bool false)), (.v (.int .i64 0)), (.v (.int .i64 0)), (.v (.int .i64 0)), (.v (.slice none 0 0))])⟩
  (.seq ⟨some 5, none, (.ofA (.mv (.tmp 11)))⟩
  (.seq ⟨none, none, (.store 5 (.tmp 6) (.tmp 12))⟩
  .done))))))
 (.seq (.tree (.take ⟨some 13, none, (.ofA (.faddr 0 (.tmp 6)))⟩
  (.take ⟨some 14, none, (.ofA (.load none (.tmp 13)))⟩
  (.take ⟨some 15, none, (.ofA (.mv (.tmp 5)))⟩
  (.take ⟨some 16, none, (.ofA (.iarr 4 2 (.tmp 3) (.tmp 15)))⟩
  (.take ⟨some 17, none, (.ofA (.faddr 0 (.tmp 16)))⟩
  (.take ⟨some 18, none, (.ofA (.load none (.tmp 17)))⟩
  (.take ⟨some 19, none, (.ofA (.bin .neq (.tmp 18) (.cst (.v (.int .i64 0)))))⟩
  (.take ⟨some 20, none, (.ofA (.eqb true (.tmp 14) (.tmp 19)))⟩
  (.take ⟨some 21, none, (.ofA (.mv (.tmp 20)))⟩
  (.take ⟨some 22, some (21, false), (.ofA (.faddr 0 (.tmp 6)))⟩
  (.take ⟨some 23, some (21, false), (.ofA (.load none (.tmp 22)))⟩
  (.take ⟨some 24, some (21, false), (.ofA (.mv (.tmp 23)))⟩
  (.take ⟨some 25, some (24, true), (.ofA (.faddr 2 (.tmp 6)))⟩
  (.take ⟨some 26, some (24, true), (.ofA (.load none (.tmp 25)))⟩
  (.take ⟨some 27, some (24, true), (.ofA (.mv (.tmp 5)))⟩
  (.take ⟨some 28, some (24, true), (.ofA (.iarr 4 2 (.tmp 3) (.tmp 27)))⟩
  (.take ⟨some 29, some (24, true), (.ofA (.faddr 0 (.tmp 28)))⟩
  (.take ⟨some 30, some (24, true), (.ofA (.load none (.tmp 29)))⟩
  (.take ⟨some 31, some (24, true), (.ofA (.bin .neq (.tmp 26) (.tmp 30)))⟩
  (.take ⟨some 32, some (24, true), (.ofA (.mv (.tmp 31)))⟩
  (.take ⟨some 33, some (32, false), (.ofA (.faddr 3 (.tmp 6)))⟩
  (.take ⟨some 34, some (32, false), (.ofA (.load none (.tmp 33)))⟩
  (.take ⟨some 35, some (32, false), (.ofA (.mv (.tmp 5)))⟩
  (.take ⟨some 36, some (32, false), (.ofA (.iarr 4 2 (.tmp 3) (.tmp 35)))⟩
  (.take ⟨some 37, some (32, false), (.ofA (.faddr 1 (.tmp 36)))⟩
  (.take ⟨some 38, some (32, false), (.ofA (.load none (.tmp 37)))⟩
  (.take ⟨some 39, some (32, false), (.ofA (.bin .neq (.tmp 34) (.tmp 38)))⟩
  (.take ⟨some 40, some (24, true), (.ofA (.pick (.tmp 32) (.cst (.v (.bool true))) (.tmp 39)))⟩
  (.take ⟨some 41, some (21, false), (.ofA (.pick (.tmp 24) (.tmp 40) (.cst (.v (.bool false)))))⟩
  (.take ⟨some 42, none, (.ofA (.pick (.tmp 21) (.cst (.v (.bool true))) (.tmp 41)))⟩
  .done)))))))))))))))))))))))))))))))
 (.cond (.tmp 42)
 (.seq (.tree (.seq ⟨some 4, none, (.ofA (.mv (.cst (.v (.bool false)))))⟩
  .done))
 .ret)
 .skip))))
 (.tree (.seq ⟨some 43, none, (.ofA (.bin .add (.tmp 9) (.cst (.v (.int .i64 1)))))⟩
  (.seq ⟨some 9, none, (.ofA (.mv (.tmp 43)))⟩
  .done)))))))))
 (.seq (.tree (.seq ⟨some 4, none, (.ofA (.mv (.cst (.v (.bool true)))))⟩
  .done))
 .ret)))
def r48 : List XR := [.tmp 4]
theorem fn48 : FnX Try.prog 48 [] 44 x48 r48 := ⟨_, Try.func48, by kernel_rfl, by kernel_rfl, by kernel_rfl, by kernel_rfl⟩
-- almshouse/almshouseref49.Right (1 parameters)
def x49 : XC := (.seq (.tree (.seq ⟨some 1, none, (.box (.tmp 0))⟩
  (.seq ⟨some 2, none, (.ofA (.mv (.cst (.v (.bool false)))))⟩
  .done)))
 (.seq (.seq (.tree (.seq ⟨some 5, none, (.ofA (.load (some 8) (.tmp 1)))⟩
  (.seq ⟨some 6, none, (.ofA (.mv (.cst (.v (.int .i64 0)))))⟩
  .done)))
 (.block 0 (.loop (.seq (.tree (.seq ⟨some 7, none, (.ofA (.bin .lss (.tmp 6) (.cst (.v (.int .i64 4)))))⟩
  .done))
 (.seq (.cond (.tmp 7)
 .skip
 (.exit 0))
 (.seq (.block 1 (.seq (.tree (.seq ⟨some 8, none, (.ofA (.idx 4 2 true (.tmp 5) (.tmp 6)))⟩
  (.seq ⟨some 4, none, (.alloc [(.v (.int .i64 0)), (.v (.int .i64 0))])⟩
  (.seq ⟨none, none, (.store 2 (.tmp 4) (.tmp 8))⟩
  .done))))
 (.seq (.tree (.seq ⟨some 9, none, (.ofA (.faddr 0 (.tmp 4)))⟩
  (.seq ⟨some 10, none, (.ofA (.load none (.tmp 9)))⟩
  (.seq ⟨some 11, none, (.ofA (.bin .neq (.tmp 10) (.cst (.v (.int .i64 0)))))⟩
  (.seq ⟨some 12, none, (.ofA (.mv (.tmp 11)))⟩
  (.seq ⟨some 13, some (12, true), (.ofA (.faddr 0 (.tmp 4)))⟩
  (.seq ⟨some 14, some (12, true), (.ofA (.load none (.tmp 13)))⟩
  (.seq ⟨some 15, some (12, true), (.ofA (.faddr 1 (.tmp 4)))⟩
  (.seq ⟨some 16, some (12, true), (.ofA (.load none (.tmp 15)))⟩
  (.seq ⟨some 17, some (12, true), (.call (.cst (.fn 107 [])) [(.tmp 14), (.tmp 16), (.cst (.v (.int .i64 2)))])⟩
  (.seq ⟨some 18, some (12, true), (.ofA (.un .not (.tmp 17)))⟩
  (.seq ⟨some 19, none, (.ofA (.pick (.tmp 12) (.tmp 18) (.cst (.v (.bool false)))))⟩
  .done))))))))))))
 (.cond (.tmp 19)
 (.seq (.tree (.seq ⟨some 2, none, (.ofA (.mv (.cst (.v (.bool false)))))⟩
  .done))
 .ret)
 .skip))))
 (.tree (.seq ⟨some 20, none, (.ofA (.bin .add (.tmp 6) (.cst (.v (.int .i64 1)))))⟩
  (.seq ⟨some 6, none, (.ofA (.mv (.tmp 20)))⟩
  .done)))))))))
 (.seq (.tree (.seq ⟨some 2, none, (.ofA (.mv (.cst (.v (.bool true)))))⟩
  .done))
 .ret)))
def r49 : List XR := [.tmp 2]
theorem fn49 : FnX Try.prog 49 [] 21 x49 r49 := ⟨_, Try.func49, by kernel_rfl, by kernel_rfl, by kernel_rfl, by kernel_rfl⟩
-- almshouse/plan.Need (3 parameters)
def x44 : XC := (.seq (.tree (.seq ⟨some 3, none, (.box (.tmp 0))⟩
  (.seq ⟨some 4, none, (.box (.tmp 1))⟩
  (.seq ⟨some 6, none, (.ofA (.mv (.cst (.v (.int .i64 0)))))⟩
  .done))))
 (.seq (.tree (.seq ⟨some 7, none, (.ofA (.mv (.cst (.v (.int .i64 0)))))⟩
  .done))
 (.seq (.seq (.tree (.seq ⟨some 11, none, (.ofA (.load (some 8) (.tmp 4)))⟩
  (.seq ⟨some 12, none, (.ofA (.mv (.cst (.v (.int .i64 0)))))⟩
  .done)))
 (.block 0 (.loop (.seq (.tree (.seq ⟨some 13, none, (.ofA (.bin .lss (.tmp 12) (.cst (.v (.int .i64 4)))))⟩
  .done))
 (.seq (.cond (.tmp 13)
 .skip
 (.exit 0))
 (.seq (.block 1 (.seq (.tree (.seq ⟨some 14, none, (.ofA (.mv (.tmp 12)))⟩
  (.seq ⟨some 15, none, (.ofA (.idx 4 2 true (.tmp 11) (.tmp 12)))⟩
  (.seq ⟨some 9, none, (.alloc [(.v (.int .i64 0)), (.v (.int .i64 0))])⟩
  (.seq ⟨some 8, none, (.ofA (.mv (.tmp 14)))⟩
  (.seq ⟨none, none, (.store 2 (.tmp 9) (.tmp 15))⟩
  .done))))))
 (.seq (.seq (.tree (.seq ⟨some 16, none, (.ofA (.load (some 2) (.tmp 9)))⟩
  (.seq ⟨some 17, none, (.call (.cst (.fn 98 [])) [(.tmp 16)])⟩
  (.seq ⟨some 18, none, (.ofA (.un .not (.tmp 17)))⟩
  .done))))
 (.cond (.tmp 18)
 (.exit 1)
 .skip))
 (.seq (.tree (.seq ⟨some 19, none, (.ofA (.faddr 0 (.tmp 9)))⟩
  (.seq ⟨some 20, none, (.ofA (.load none (.tmp 19)))⟩
  (.seq ⟨some 21, none, (.ofA (.faddr 1 (.tmp 9)))⟩
  (.seq ⟨some 22, none, (.ofA (.load none (.tmp 21)))⟩
  (.seq ⟨some 23, none, (.ofA (.mv (.tmp 2)))⟩
  (.seq ⟨some 24, none, (.call (.cst (.fn 103 [])) [(.tmp 20), (.tmp 22), (.tmp 23)])⟩
  (.seq ⟨some 10, none, (.ofA (.mv (.tmp 24)))⟩
  .done))))))))
 (.seq (.seq (.tree (.take ⟨some 25, none, (.ofA (.load (some 2) (.tmp 9)))⟩
  (.take ⟨some 26, none, (.ofA (.mv (.tmp 8)))⟩
  (.take ⟨some 27, none, (.ofA (.faddr 2 (.tmp 3)))⟩
  (.take ⟨some 28, none, (.ofA (.iarr 4 5 (.tmp 27) (.tmp 26)))⟩
  (.take ⟨some 29, none, (.ofA (.load (some 5) (.tmp 28)))⟩
  (.act true [(⟨some 30, none, (.call (.cst (.fn 104 [])) [(.tmp 25), (.tmp 29)])⟩,
 .done)])))))))
 (.cond (.tmp 30)
 (.tree (.seq ⟨some 31, none, (.ofA (.mv (.tmp 10)))⟩
  (.seq ⟨some 32, none, (.ofA (.mv (.tmp 8)))⟩
  (.seq ⟨some 33, none, (.ofA (.faddr 2 (.tmp 3)))⟩
  (.seq ⟨some 34, none, (.ofA (.iarr 4 5 (.tmp 33) (.tmp 32)))⟩
  (.seq ⟨some 35, none, (.ofA (.faddr 4 (.tmp 34)))⟩
  (.seq ⟨some 36, none, (.ofA (.load none (.tmp 35)))⟩
  (.seq ⟨some 37, none, (.ofA (.len (.tmp 36)))⟩
  (.seq ⟨some 38, none, (.ofA (.mx true (.tmp 31) [(.tmp 37)]))⟩
  (.seq ⟨some 10, none, (.ofA (.mv (.tmp 38)))⟩
  .done))))))))))
 .skip))
 (.tree (.seq ⟨some 39, none, (.ofA (.mv (.tmp 7)))⟩
  (.seq ⟨some 40, none, (.ofA (.mv (.tmp 10)))⟩
  (.seq ⟨some 41, none, (.ofA (.bin .add (.tmp 39) (.tmp 40)))⟩
  (.seq ⟨some 7, none, (.ofA (.mv (.tmp 41)))⟩
  .done))))))))))
 (.tree (.seq ⟨some 42, none, (.ofA (.bin .add (.tmp 12) (.cst (.v (.int .i64 1)))))⟩
  (.seq ⟨some 12, none, (.ofA (.mv (.tmp 42)))⟩
  .done)))))))))
 (.seq (.tree (.seq ⟨some 43, none, (.ofA (.mv (.tmp 7)))⟩
  (.seq ⟨some 6, none, (.ofA (.mv (.tmp 43)))⟩
  .done)))
 .ret))))
def r44 : List XR := [.tmp 6]
theorem fn44 : FnX Try.prog 44 [] 44 x44 r44 := ⟨_, Try.func44, by kernel_rfl, by kernel_rfl, by kernel_rfl, by kernel_rfl⟩
-- almshouse/almshouseref49.Need (3 parameters)
def x45 : XC := (.seq (.tree (.seq ⟨some 3, none, (.box (.tmp 0))⟩
  (.seq ⟨some 4, none, (.box (.tmp 1))⟩
  (.seq ⟨some 6, none, (.ofA (.mv (.cst (.v (.int .i64 0)))))⟩
  .done))))
 (.seq (.tree (.seq ⟨some 7, none, (.ofA (.mv (.cst (.v (.int .i64 0)))))⟩
  .done))
 (.seq (.seq (.tree (.seq ⟨some 11, none, (.ofA (.faddr 2 (.tmp 3)))⟩
  (.seq ⟨some 12, none, (.ofA (.load (some 20) (.tmp 11)))⟩
  (.seq ⟨some 13, none, (.ofA (.mv (.cst (.v (.int .i64 0)))))⟩
  .done))))
 (.block 0 (.loop (.seq (.tree (.seq ⟨some 14, none, (.ofA (.bin .lss (.tmp 13) (.cst (.v (.int .i64 4)))))⟩
  .done))
 (.seq (.cond (.tmp 14)
 .skip
 (.exit 0))
 (.seq (.block 1 (.seq (.tree (.seq ⟨some 15, none, (.ofA (.mv (.tmp 13)))⟩
  (.seq ⟨some 16, none, (.ofA (.idx 4 5 true (.tmp 12) (.tmp 13)))⟩
  (.seq ⟨some 9, none, (.alloc [(.v (.bool false)), (.v (.int .i64 0)), (.v (.int .i64 0)), (.v (.int .i64 0)), (.v (.slice none 0 0))])⟩
  (.seq ⟨some 8, none, (.ofA (.mv (.tmp 15)))⟩
  (.seq ⟨none, none, (.store 5 (.tmp 9) (.tmp 16))⟩
  .done))))))
 (.seq (.seq (.tree (.seq ⟨some 17, none, (.ofA (.mv (.tmp 8)))⟩
  (.seq ⟨some 18, none, (.ofA (.iarr 4 2 (.tmp 4) (.tmp 17)))⟩
  (.seq ⟨some 19, none, (.ofA (.faddr 0 (.tmp 18)))⟩
  (.seq ⟨some 20, none, (.ofA (.load none (.tmp 19)))⟩
  (.seq ⟨some 21, none, (.ofA (.bin .eql (.tmp 20) (.cst (.v (.int .i64 0)))))⟩
  .done))))))
 (.cond (.tmp 21)
 (.exit 1)
 .skip))
 (.seq (.tree (.take ⟨some 22, none, (.ofA (.mv (.tmp 8)))⟩
  (.take ⟨some 23, none, (.ofA (.iarr 4 2 (.tmp 4) (.tmp 22)))⟩
  (.take ⟨some 24, none, (.ofA (.faddr 0 (.tmp 23)))⟩
  (.take ⟨some 25, none, (.ofA (.load none (.tmp 24)))⟩
  (.take ⟨some 26, none, (.ofA (.mv (.tmp 8)))⟩
  (.take ⟨some 27, none, (.ofA (.iarr 4 2 (.tmp 4) (.tmp 26)))⟩
  (.take ⟨some 28, none, (.ofA (.faddr 1 (.tmp 27)))⟩
  (.take ⟨some 29, none, (.ofA (.load none (.tmp 28)))⟩
  (.take ⟨some 30, none, (.ofA (.mv (.tmp 2)))⟩
  (.act true [(⟨some 31, none, (.call (.cst (.fn 105 [])) [(.tmp 25), (.tmp 29), (.tmp 30)])⟩,
 (.take ⟨some 10, none, (.ofA (.mv (.tmp 31)))⟩
  .done))])))))))))))
 (.seq (.seq (.tree (.take ⟨some 32, none, (.ofA (.load (some 5) (.tmp 9)))⟩
  (.take ⟨some 33, none, (.ofA (.mv (.tmp 8)))⟩
  (.take ⟨some 34, none, (.ofA (.iarr 4 2 (.tmp 4) (.tmp 33)))⟩
  (.take ⟨some 35, none, (.ofA (.load (some 2) (.tmp 34)))⟩
  (.act true [(⟨some 36, none, (.call (.cst (.fn 106 [])) [(.tmp 32), (.tmp 35)])⟩,
 (.take ⟨some 37, none, (.ofA (.mv (.tmp 36)))⟩
  (.take ⟨some 38, some (37, true), (.ofA (.faddr 4 (.tmp 9)))⟩
  (.take ⟨some 39, some (37, true), (.ofA (.load none (.tmp 38)))⟩
  (.take ⟨some 40, some (37, true), (.ofA (.len (.tmp 39)))⟩
  (.take ⟨some 41, some (37, true), (.ofA (.mv (.tmp 10)))⟩
  (.take ⟨some 42, some (37, true), (.ofA (.bin .gtr (.tmp 40) (.tmp 41)))⟩
  (.take ⟨some 43, none, (.ofA (.pick (.tmp 37) (.tmp 42) (.cst (.v (.bool false)))))⟩
  .done))))))))]))))))
 (.cond (.tmp 43)
 (.tree (.seq ⟨some 44, none, (.ofA (.faddr 4 (.tmp 9)))⟩
  (.seq ⟨some 45, none, (.ofA (.load none (.tmp 44)))⟩
  (.seq ⟨some 46, none, (.ofA (.len (.tmp 45)))⟩
  (.seq ⟨some 10, none, (.ofA (.mv (.tmp 46)))⟩
  .done)))))
 .skip))
 (.tree (.seq ⟨some 47, none, (.ofA (.mv (.tmp 7)))⟩
  (.seq ⟨some 48, none, (.ofA (.mv (.tmp 10)))⟩
  (.seq ⟨some 49, none, (.ofA (.bin .add (.tmp 47) (.tmp 48)))⟩
  (.seq ⟨some 7, none, (.ofA (.mv (.tmp 49)))⟩
  .done))))))))))
 (.tree (.seq ⟨some 50, none, (.ofA (.bin .add (.tmp 13) (.cst (.v (.int .i64 1)))))⟩
  (.seq ⟨some 13, none, (.ofA (.mv (.tmp 50)))⟩
  .done)))))))))
 (.seq (.tree (.seq ⟨some 51, none, (.ofA (.mv (.tmp 7)))⟩
  (.seq ⟨some 6, none, (.ofA (.mv (.tmp 51)))⟩
  .done)))
 .ret))))
def r45 : List XR := [.tmp 6]
theorem fn45 : FnX Try.prog 45 [] 52 x45 r45 := ⟨_, Try.func45, by kernel_rfl, by kernel_rfl, by kernel_rfl, by kernel_rfl⟩

def tS (t : Tn) : List SV := [.v (.bool t.there), .v (.int .i64 t.epoch), .v (.int .i64 t.size), .v (.int .i64 t.spare), .v (.slice t.A t.n t.c)]
def wS (x : Wi) : List SV := [.v (.int .i64 x.size), .v (.int .i64 x.spare)]
def decT : List SV → Option (List Tn)
  | [] => some []
  | .v (.bool th) :: .v (.int .i64 ep) :: .v (.int .i64 sz) :: .v (.int .i64 sp) :: .v (.slice A n c) :: r => (decT r).map (⟨th, ep, sz, sp, A, n, c⟩ :: ·)
  | _ => none
def decW : List SV → Option (List Wi)
  | [] => some []
  | .v (.int .i64 s) :: .v (.int .i64 p) :: r => (decW r).map (⟨s, p⟩ :: ·)
  | _ => none
theorem decT_inv : ∀ {l : List SV} {ts : List Tn}, decT l = some ts → l = ts.flatMap tS
  | [], ts, h => by simp only [decT] at h; injection h with h; subst h; rfl
  | a :: l, ts, h => by
    unfold decT at h
    split at h
    · rename_i heq; cases heq
    · rename_i heq
      cases heq
      obtain ⟨ts', h1, rfl⟩ := Option.map_eq_some_iff.1 h
      rw [decT_inv h1]
      simp [tS]
    · cases h
theorem decW_inv : ∀ {l : List SV} {ts : List Wi}, decW l = some ts → l = ts.flatMap wS
  | [], ts, h => by simp only [decW] at h; injection h with h; subst h; rfl
  | a :: l, ts, h => by
    unfold decW at h
    split at h
    · rename_i heq; cases heq
    · rename_i heq
      cases heq
      obtain ⟨ts', h1, rfl⟩ := Option.map_eq_some_iff.1 h
      rw [decW_inv h1]
      simp [wS]
    · cases h
def ledK (o : Option (List Tn)) (p : Option (List Wi)) (F : List Tn → List Wi → Prop) : Prop :=
  match o, p with | some [t0, t1, t2, t3], some [x0, x1, x2, x3] => F [t0, t1, t2, t3] [x0, x1, x2, x3] | _, _ => False
theorem ledK_inv {o : Option (List Tn)} {p : Option (List Wi)} {F : List Tn → List Wi → Prop} (h : ledK o p F) : ∃ t0 t1 t2 t3 x0 x1 x2 x3, o = some [t0, t1, t2, t3] ∧ p = some [x0, x1, x2, x3] ∧ F [t0, t1, t2, t3] [x0, x1, x2, x3] := by
  unfold ledK at h
  split at h
  · exact ⟨_, _, _, _, _, _, _, _, rfl, rfl, h⟩
  · exact h.elim
def metK (t : Tn) (x : Wi) : Bool := (t.there == (x.size != 0)) && (!t.there || (x.size == t.size && x.spare == t.spare))
def metF (ts : List Tn) (xs : List Wi) : Bool := (List.zip ts xs).all fun p => metK p.1 p.2
def c47 : Trans := fun args m k => match args with
  | [.agg (.v g :: .v e :: l), .agg w] => ledK (decT l) (decW w) fun ts xs => k (.v (.bool (metF ts xs))) m
  | _ => False
theorem led_plain (ts : List Tn) : plainL (ts.flatMap tS) = true := by
  induction ts with
  | nil => rfl
  | cons t ts ih => simp only [List.flatMap_cons, tS, List.cons_append, List.nil_append, Sy.p_c, Sy.p_v, ih, Bool.and_self]
theorem wis_plain (ts : List Wi) : plainL (ts.flatMap wS) = true := by
  induction ts with
  | nil => rfl
  | cons t ts ih => simp only [List.flatMap_cons, wS, List.cons_append, List.nil_append, Sy.p_c, Sy.p_v, ih, Bool.and_self]
theorem nb1 : ∀ {b : Bool}, (!b) = true → b = false := by decide
theorem nb2 : ∀ {b : Bool}, ¬ (!b) = true → b = true := by decide
theorem nb3 : ∀ {b : Bool}, ¬ b = true → b = false := by decide
theorem g98 : GOk Try.prog [⟨98, true, c98⟩] := GOk.cons c98_ok g0
set_option maxHeartbeats 4000000 in
set_option maxRecDepth 20000 in
theorem c47_ok : Contract Try.prog 47 true c47 := by
  refine .plainArgs fn47 g98 _ fun args m k h => ?_
  unfold c47 at h
  split at h
  · rename_i g e l w
    obtain ⟨t0, t1, t2, t3, x0, x1, x2, x3, d1, d2, hk⟩ := ledK_inv h
    clear h
    have h := hk
    clear hk
    obtain rfl := decT_inv d1
    obtain rfl := decW_inv d2
    clear d1 d2
    refine ⟨by simp only [Sy.p_c, Sy.p_agg, Sy.p_v, Sy.p_0, led_plain, wis_plain, Bool.and_self], by simp, ?_⟩
    simp only [List.flatMap_cons, List.flatMap_nil, tS, wS, List.cons_append, List.nil_append]
    simp (maxSteps := 2000000) -implicitDefEqProofs only [↓x47, ↓r47, ↓c98, ↓Sy.PRE, Sy.POST, Nat.reduceDiv, Nat.reduceMod, Int.reduceLT, Int.reduceLE, Int.reduceToNat, Int.reduceAdd, decide_true, decide_false, ↓reduceIte, List.map_cons, List.map_nil, List.length_cons, List.length_nil, List.cons_append, List.nil_append, List.getElem?_cons_zero, List.getElem?_cons_succ, List.getElem?_nil, List.take_succ_cons, List.take_zero, List.drop_succ_cons, List.drop_zero, List.all_cons, List.all_nil, List.set_cons_zero, List.set_cons_succ, List.append_nil, Option.map_some, Option.map_none, cond_true, cond_false, Bool.true_eq_false, Bool.false_eq_true, Bool.not_true, Bool.not_false, Nat.reduceEqDiff, Nat.reduceAdd, Nat.reduceMul, Nat.reduceSub, Nat.reduceLeDiff, Nat.reduceLT, true_and, and_true, reduceCtorEq, Nat.zero_add, Nat.add_zero, Nat.zero_mul, Nat.le_refl, Int.toNat_natCast, Bool.and_self, Bool.true_and, Bool.and_true, if_true, eq_self, forall_const, and_self, implies_true]
    refine TX_loop g98 (X := { x : Nat // x ≤ 4 ∧ metF ([t0, t1, t2, t3].take x) ([x0, x1, x2, x3].take x) = true }) (fun x => [(3, .ptr 1 0), (8, .agg (tS t0 ++ tS t1 ++ tS t2 ++ tS t3)), (9, .v (.int .i64 (x.1 : Int)))])
      (fun _ => [⟨true, .v g :: .v e :: (tS t0 ++ tS t1 ++ tS t2 ++ tS t3)⟩, ⟨true, wS x0 ++ wS x1 ++ wS x2 ++ wS x3⟩]) (fun x => 4 - x.1) ⟨0, by omega, rfl⟩ ?_ ?_
    · exact ⟨[0, 1], by simp, by simp only [FitM, ObLe, LeL, Le, tS, wS, List.cons_append, List.nil_append]; simp (maxSteps := 2000000) -implicitDefEqProofs only [↓Sy.PRE, Sy.POST, Nat.reduceDiv, Nat.reduceMod, Int.reduceLT, Int.reduceLE, Int.reduceToNat, Int.reduceAdd, decide_true, decide_false, ↓reduceIte, List.map_cons, List.map_nil, List.length_cons, List.length_nil, List.cons_append, List.nil_append, List.getElem?_cons_zero, List.getElem?_cons_succ, List.getElem?_nil, List.take_succ_cons, List.take_zero, List.drop_succ_cons, List.drop_zero, List.all_cons, List.all_nil, List.set_cons_zero, List.set_cons_succ, List.append_nil, Option.map_some, Option.map_none, cond_true, cond_false, Bool.true_eq_false, Bool.false_eq_true, Bool.not_true, Bool.not_false, Nat.reduceEqDiff, Nat.reduceAdd, Nat.reduceMul, Nat.reduceSub, Nat.reduceLeDiff, Nat.reduceLT, true_and, and_true, reduceCtorEq, Nat.zero_add, Nat.add_zero, Nat.zero_mul, Nat.le_refl, Int.toNat_natCast, Bool.and_self, Bool.true_and, Bool.and_true, if_true, eq_self, forall_const, and_self, implies_true]; simp, by simp only [FitE, Le, LeL, tS, wS, List.cons_append, List.nil_append]; simp (maxSteps := 2000000) -implicitDefEqProofs only [↓Sy.PRE, Sy.POST, Nat.reduceDiv, Nat.reduceMod, Int.reduceLT, Int.reduceLE, Int.reduceToNat, Int.reduceAdd, decide_true, decide_false, ↓reduceIte, List.map_cons, List.map_nil, List.length_cons, List.length_nil, List.cons_append, List.nil_append, List.getElem?_cons_zero, List.getElem?_cons_succ, List.getElem?_nil, List.take_succ_cons, List.take_zero, List.drop_succ_cons, List.drop_zero, List.all_cons, List.all_nil, List.set_cons_zero, List.set_cons_succ, List.append_nil, Option.map_some, Option.map_none, cond_true, cond_false, Bool.true_eq_false, Bool.false_eq_true, Bool.not_true, Bool.not_false, Nat.reduceEqDiff, Nat.reduceAdd, Nat.reduceMul, Nat.reduceSub, Nat.reduceLeDiff, Nat.reduceLT, true_and, and_true, reduceCtorEq, Nat.zero_add, Nat.add_zero, Nat.zero_mul, Nat.le_refl, Int.toNat_natCast, Bool.and_self, Bool.true_and, Bool.and_true, if_true, eq_self, forall_const, and_self, implies_true]; try simp⟩
    · rintro ⟨x, hx, hall⟩
      simp only [tS, wS, List.cons_append, List.nil_append]
      rcases (by omega : x = 0 ∨ x = 1 ∨ x = 2 ∨ x = 3 ∨ x = 4) with rfl | rfl | rfl | rfl | rfl
      · simp (maxSteps := 2000000) -implicitDefEqProofs only [↓c98, Sy.w_64, ↓Sy.PRE, Sy.POST, Nat.reduceDiv, Nat.reduceMod, Int.reduceLT, Int.reduceLE, Int.reduceToNat, Int.reduceAdd, decide_true, decide_false, ↓reduceIte, List.map_cons, List.map_nil, List.length_cons, List.length_nil, List.cons_append, List.nil_append, List.getElem?_cons_zero, List.getElem?_cons_succ, List.getElem?_nil, List.take_succ_cons, List.take_zero, List.drop_succ_cons, List.drop_zero, List.all_cons, List.all_nil, List.set_cons_zero, List.set_cons_succ, List.append_nil, Option.map_some, Option.map_none, cond_true, cond_false, Bool.true_eq_false, Bool.false_eq_true, Bool.not_true, Bool.not_false, Nat.reduceEqDiff, Nat.reduceAdd, Nat.reduceMul, Nat.reduceSub, Nat.reduceLeDiff, Nat.reduceLT, true_and, and_true, reduceCtorEq, Nat.zero_add, Nat.add_zero, Nat.zero_mul, Nat.le_refl, Int.toNat_natCast, Bool.and_self, Bool.true_and, Bool.and_true, if_true, eq_self, forall_const, and_self, implies_true]
        have key : metK t0 x0 = false → k (.v (.bool false)) m := fun hk => by
          have : metF [t0, t1, t2, t3] [x0, x1, x2, x3] = false := by simp [metF, hk]
          rw [this] at h; exact h
        have next : metK t0 x0 = true → metF ([t0, t1, t2, t3].take 1) ([x0, x1, x2, x3].take 1) = true := fun hk => by
          simp [metF] at hall ⊢
          simp [hall, hk]
        split
        · rename_i h1
          exact key (by unfold metK; rw [nb1 h1]; rfl)
        · rename_i h1
          split
          · rename_i h2
            split
            · rename_i h3
              exact key (by unfold metK; rw [nb2 h1, nb1 h3, h2]; rfl)
            · rename_i h3
              exact ⟨⟨1, by omega, next (by unfold metK; rw [nb2 h1, nb2 h3]; cases (Tn.there _) <;> rfl)⟩, by simp only; omega, [0, 1], by simp, by simp only [FitM, ObLe, LeL, Le]; simp (maxSteps := 2000000) -implicitDefEqProofs only [↓Sy.PRE, Sy.POST, Nat.reduceDiv, Nat.reduceMod, Int.reduceLT, Int.reduceLE, Int.reduceToNat, Int.reduceAdd, decide_true, decide_false, ↓reduceIte, List.map_cons, List.map_nil, List.length_cons, List.length_nil, List.cons_append, List.nil_append, List.getElem?_cons_zero, List.getElem?_cons_succ, List.getElem?_nil, List.take_succ_cons, List.take_zero, List.drop_succ_cons, List.drop_zero, List.all_cons, List.all_nil, List.set_cons_zero, List.set_cons_succ, List.append_nil, Option.map_some, Option.map_none, cond_true, cond_false, Bool.true_eq_false, Bool.false_eq_true, Bool.not_true, Bool.not_false, Nat.reduceEqDiff, Nat.reduceAdd, Nat.reduceMul, Nat.reduceSub, Nat.reduceLeDiff, Nat.reduceLT, true_and, and_true, reduceCtorEq, Nat.zero_add, Nat.add_zero, Nat.zero_mul, Nat.le_refl, Int.toNat_natCast, Bool.and_self, Bool.true_and, Bool.and_true, if_true, eq_self, forall_const, and_self, implies_true]; simp, by simp only [FitE, Le, LeL]; simp (maxSteps := 2000000) -implicitDefEqProofs only [↓Sy.PRE, Sy.POST, Nat.reduceDiv, Nat.reduceMod, Int.reduceLT, Int.reduceLE, Int.reduceToNat, Int.reduceAdd, decide_true, decide_false, ↓reduceIte, List.map_cons, List.map_nil, List.length_cons, List.length_nil, List.cons_append, List.nil_append, List.getElem?_cons_zero, List.getElem?_cons_succ, List.getElem?_nil, List.take_succ_cons, List.take_zero, List.drop_succ_cons, List.drop_zero, List.all_cons, List.all_nil, List.set_cons_zero, List.set_cons_succ, List.append_nil, Option.map_some, Option.map_none, cond_true, cond_false, Bool.true_eq_false, Bool.false_eq_true, Bool.not_true, Bool.not_false, Nat.reduceEqDiff, Nat.reduceAdd, Nat.reduceMul, Nat.reduceSub, Nat.reduceLeDiff, Nat.reduceLT, true_and, and_true, reduceCtorEq, Nat.zero_add, Nat.add_zero, Nat.zero_mul, Nat.le_refl, Int.toNat_natCast, Bool.and_self, Bool.true_and, Bool.and_true, if_true, eq_self, forall_const, and_self, implies_true]; try simp⟩
          · rename_i h2
            exact ⟨⟨1, by omega, next (by unfold metK; rw [nb2 h1, nb3 h2]; rfl)⟩, by simp only; omega, [0, 1], by simp, by simp only [FitM, ObLe, LeL, Le]; simp (maxSteps := 2000000) -implicitDefEqProofs only [↓Sy.PRE, Sy.POST, Nat.reduceDiv, Nat.reduceMod, Int.reduceLT, Int.reduceLE, Int.reduceToNat, Int.reduceAdd, decide_true, decide_false, ↓reduceIte, List.map_cons, List.map_nil, List.length_cons, List.length_nil, List.cons_append, List.nil_append, List.getElem?_cons_zero, List.getElem?_cons_succ, List.getElem?_nil, List.take_succ_cons, List.take_zero, List.drop_succ_cons, List.drop_zero, List.all_cons, List.all_nil, List.set_cons_zero, List.set_cons_succ, List.append_nil, Option.map_some, Option.map_none, cond_true, cond_false, Bool.true_eq_false, Bool.false_eq_true, Bool.not_true, Bool.not_false, Nat.reduceEqDiff, Nat.reduceAdd, Nat.reduceMul, Nat.reduceSub, Nat.reduceLeDiff, Nat.reduceLT, true_and, and_true, reduceCtorEq, Nat.zero_add, Nat.add_zero, Nat.zero_mul, Nat.le_refl, Int.toNat_natCast, Bool.and_self, Bool.true_and, Bool.and_true, if_true, eq_self, forall_const, and_self, implies_true]; simp, by simp only [FitE, Le, LeL]; simp (maxSteps := 2000000) -implicitDefEqProofs only [↓Sy.PRE, Sy.POST, Nat.reduceDiv, Nat.reduceMod, Int.reduceLT, Int.reduceLE, Int.reduceToNat, Int.reduceAdd, decide_true, decide_false, ↓reduceIte, List.map_cons, List.map_nil, List.length_cons, List.length_nil, List.cons_append, List.nil_append, List.getElem?_cons_zero, List.getElem?_cons_succ, List.getElem?_nil, List.take_succ_cons, List.take_zero, List.drop_succ_cons, List.drop_zero, List.all_cons, List.all_nil, List.set_cons_zero, List.set_cons_succ, List.append_nil, Option.map_some, Option.map_none, cond_true, cond_false, Bool.true_eq_false, Bool.false_eq_true, Bool.not_true, Bool.not_false, Nat.reduceEqDiff, Nat.reduceAdd, Nat.reduceMul, Nat.reduceSub, Nat.reduceLeDiff, Nat.reduceLT, true_and, and_true, reduceCtorEq, Nat.zero_add, Nat.add_zero, Nat.zero_mul, Nat.le_refl, Int.toNat_natCast, Bool.and_self, Bool.true_and, Bool.and_true, if_true, eq_self, forall_const, and_self, implies_true]; try simp⟩
      · simp (maxSteps := 2000000) -implicitDefEqProofs only [↓c98, Sy.w_64, ↓Sy.PRE, Sy.POST, Nat.reduceDiv, Nat.reduceMod, Int.reduceLT, Int.reduceLE, Int.reduceToNat, Int.reduceAdd, decide_true, decide_false, ↓reduceIte, List.map_cons, List.map_nil, List.length_cons, List.length_nil, List.cons_append, List.nil_append, List.getElem?_cons_zero, List.getElem?_cons_succ, List.getElem?_nil, List.take_succ_cons, List.take_zero, List.drop_succ_cons, List.drop_zero, List.all_cons, List.all_nil, List.set_cons_zero, List.set_cons_succ, List.append_nil, Option.map_some, Option.map_none, cond_true, cond_false, Bool.true_eq_false, Bool.false_eq_true, Bool.not_true, Bool.not_false, Nat.reduceEqDiff, Nat.reduceAdd, Nat.reduceMul, Nat.reduceSub, Nat.reduceLeDiff, Nat.reduceLT, true_and, and_true, reduceCtorEq, Nat.zero_add, Nat.add_zero, Nat.zero_mul, Nat.le_refl, Int.toNat_natCast, Bool.and_self, Bool.true_and, Bool.and_true, if_true, eq_self, forall_const, and_self, implies_true]
        have key : metK t1 x1 = false → k (.v (.bool false)) m := fun hk => by
          have : metF [t0, t1, t2, t3] [x0, x1, x2, x3] = false := by simp [metF, hk]
          rw [this] at h; exact h
        have next : metK t1 x1 = true → metF ([t0, t1, t2, t3].take 2) ([x0, x1, x2, x3].take 2) = true := fun hk => by
          simp [metF] at hall ⊢
          simp [hall, hk]
        split
        · rename_i h1
          exact key (by unfold metK; rw [nb1 h1]; rfl)
        · rename_i h1
          split
          · rename_i h2
            split
            · rename_i h3
              exact key (by unfold metK; rw [nb2 h1, nb1 h3, h2]; rfl)
            · rename_i h3
              exact ⟨⟨2, by omega, next (by unfold metK; rw [nb2 h1, nb2 h3]; cases (Tn.there _) <;> rfl)⟩, by simp only; omega, [0, 1], by simp, by simp only [FitM, ObLe, LeL, Le]; simp (maxSteps := 2000000) -implicitDefEqProofs only [↓Sy.PRE, Sy.POST, Nat.reduceDiv, Nat.reduceMod, Int.reduceLT, Int.reduceLE, Int.reduceToNat, Int.reduceAdd, decide_true, decide_false, ↓reduceIte, List.map_cons, List.map_nil, List.length_cons, List.length_nil, List.cons_append, List.nil_append, List.getElem?_cons_zero, List.getElem?_cons_succ, List.getElem?_nil, List.take_succ_cons, List.take_zero, List.drop_succ_cons, List.drop_zero, List.all_cons, List.all_nil, List.set_cons_zero, List.set_cons_succ, List.append_nil, Option.map_some, Option.map_none, cond_true, cond_false, Bool.true_eq_false, Bool.false_eq_true, Bool.not_true, Bool.not_false, Nat.reduceEqDiff, Nat.reduceAdd, Nat.reduceMul, Nat.reduceSub, Nat.reduceLeDiff, Nat.reduceLT, true_and, and_true, reduceCtorEq, Nat.zero_add, Nat.add_zero, Nat.zero_mul, Nat.le_refl, Int.toNat_natCast, Bool.and_self, Bool.true_and, Bool.and_true, if_true, eq_self, forall_const, and_self, implies_true]; simp, by simp only [FitE, Le, LeL]; simp (maxSteps := 2000000) -implicitDefEqProofs only [↓Sy.PRE, Sy.POST, Nat.reduceDiv, Nat.reduceMod, Int.reduceLT, Int.reduceLE, Int.reduceToNat, Int.reduceAdd, decide_true, decide_false, ↓reduceIte, List.map_cons, List.map_nil, List.length_cons, List.length_nil, List.cons_append, List.nil_append, List.getElem?_cons_zero, List.getElem?_cons_succ, List.getElem?_nil, List.take_succ_cons, List.take_zero, List.drop_succ_cons, List.drop_zero, List.all_cons, List.all_nil, List.set_cons_zero, List.set_cons_succ, List.append_nil, Option.map_some, Option.map_none, cond_true, cond_false, Bool.true_eq_false, Bool.false_eq_true, Bool.not_true, Bool.not_false, Nat.reduceEqDiff, Nat.reduceAdd, Nat.reduceMul, Nat.reduceSub, Nat.reduceLeDiff, Nat.reduceLT, true_and, and_true, reduceCtorEq, Nat.zero_add, Nat.add_zero, Nat.zero_mul, Nat.le_refl, Int.toNat_natCast, Bool.and_self, Bool.true_and, Bool.and_true, if_true, eq_self, forall_const, and_self, implies_true]; try simp⟩
          · rename_i h2
            exact ⟨⟨2, by omega, next (by unfold metK; rw [nb2 h1, nb3 h2]; rfl)⟩, by simp only; omega, [0, 1], by simp, by simp only [FitM, ObLe, LeL, Le]; simp (maxSteps := 2000000) -implicitDefEqProofs only [↓Sy.PRE, Sy.POST, Nat.reduceDiv, Nat.reduceMod, Int.reduceLT, Int.reduceLE, Int.reduceToNat, Int.reduceAdd, decide_true, decide_false, ↓reduceIte, List.map_cons, List.map_nil, List.length_cons, List.length_nil, List.cons_append, List.nil_append, List.getElem?_cons_zero, List.getElem?_cons_succ, List.getElem?_nil, List.take_succ_cons, List.take_zero, List.drop_succ_cons, List.drop_zero, List.all_cons, List.all_nil, List.set_cons_zero, List.set_cons_succ, List.append_nil, Option.map_some, Option.map_none, cond_true, cond_false, Bool.true_eq_false, Bool.false_eq_true, Bool.not_true, Bool.not_false, Nat.reduceEqDiff, Nat.reduceAdd, Nat.reduceMul, Nat.reduceSub, Nat.reduceLeDiff, Nat.reduceLT, true_and, and_true, reduceCtorEq, Nat.zero_add, Nat.add_zero, Nat.zero_mul, Nat.le_refl, Int.toNat_natCast, Bool.and_self, Bool.true_and, Bool.and_true, if_true, eq_self, forall_const, and_self, implies_true]; simp, by simp only [FitE, Le, LeL]; simp (maxSteps := 2000000) -implicitDefEqProofs only [↓Sy.PRE, Sy.POST, Nat.reduceDiv, Nat.reduceMod, Int.reduceLT, Int.reduceLE, Int.reduceToNat, Int.reduceAdd, decide_true, decide_false, ↓reduceIte, List.map_cons, List.map_nil, List.length_cons, List.length_nil, List.cons_append, List.nil_append, List.getElem?_cons_zero, List.getElem?_cons_succ, List.getElem?_nil, List.take_succ_cons, List.take_zero, List.drop_succ_cons, List.drop_zero, List.all_cons, List.all_nil, List.set_cons_zero, List.set_cons_succ, List.append_nil, Option.map_some, Option.map_none, cond_true, cond_false, Bool.true_eq_false, Bool.false_eq_true, Bool.not_true, Bool.not_false, Nat.reduceEqDiff, Nat.reduceAdd, Nat.reduceMul, Nat.reduceSub, Nat.reduceLeDiff, Nat.reduceLT, true_and, and_true, reduceCtorEq, Nat.zero_add, Nat.add_zero, Nat.zero_mul, Nat.le_refl, Int.toNat_natCast, Bool.and_self, Bool.true_and, Bool.and_true, if_true, eq_self, forall_const, and_self, implies_true]; try simp⟩
      · simp (maxSteps := 2000000) -implicitDefEqProofs only [↓c98, Sy.w_64, ↓Sy.PRE, Sy.POST, Nat.reduceDiv, Nat.reduceMod, Int.reduceLT, Int.reduceLE, Int.reduceToNat, Int.reduceAdd, decide_true, decide_false, ↓reduceIte, List.map_cons, List.map_nil, List.length_cons, List.length_nil, List.cons_append, List.nil_append, List.getElem?_cons_zero, List.getElem?_cons_succ, List.getElem?_nil, List.take_succ_cons, List.take_zero, List.drop_succ_cons, List.drop_zero, List.all_cons, List.all_nil, List.set_cons_zero, List.set_cons_succ, List.append_nil, Option.map_some, Option.map_none, cond_true, cond_false, Bool.true_eq_false, Bool.false_eq_true, Bool.not_true, Bool.not_false, Nat.reduceEqDiff, Nat.reduceAdd, Nat.reduceMul, Nat.reduceSub, Nat.reduceLeDiff, Nat.reduceLT, true_and, and_true, reduceCtorEq, Nat.zero_add, Nat.add_zero, Nat.zero_mul, Nat.le_refl, Int.toNat_natCast, Bool.and_self, Bool.true_and, Bool.and_true, if_true, eq_self, forall_const, and_self, implies_true]
        have key : metK t2 x2 = false → k (.v (.bool false)) m := fun hk => by
          have : metF [t0, t1, t2, t3] [x0, x1, x2, x3] = false := by simp [metF, hk]
          rw [this] at h; exact h
        have next : metK t2 x2 = true → metF ([t0, t1, t2, t3].take 3) ([x0, x1, x2, x3].take 3) = true := fun hk => by
          simp [metF] at hall ⊢
          simp [hall, hk]
        split
        · rename_i h1
          exact key (by unfold metK; rw [nb1 h1]; rfl)
        · rename_i h1
          split
          · rename_i h2
            split
            · rename_i h3
              exact key (by unfold metK; rw [nb2 h1, nb1 h3, h2]; rfl)
            · rename_i h3
              exact ⟨⟨3, by omega, next (by unfold metK; rw [nb2 h1, nb2 h3]; cases (Tn.there _) <;> rfl)⟩, by simp only; omega, [0, 1], by simp, by simp only [FitM, ObLe, LeL, Le]; simp (maxSteps := 2000000) -implicitDefEqProofs only [↓Sy.PRE, Sy.POST, Nat.reduceDiv, Nat.reduceMod, Int.reduceLT, Int.reduceLE, Int.reduceToNat, Int.reduceAdd, decide_true, decide_false, ↓reduceIte, List.map_cons, List.map_nil, List.length_cons, List.length_nil, List.cons_append, List.nil_append, List.getElem?_cons_zero, List.getElem?_cons_succ, List.getElem?_nil, List.take_succ_cons, List.take_zero, List.drop_succ_cons, List.drop_zero, List.all_cons, List.all_nil, List.set_cons_zero, List.set_cons_succ, List.append_nil, Option.map_some, Option.map_none, cond_true, cond_false, Bool.true_eq_false, Bool.false_eq_true, Bool.not_true, Bool.not_false, Nat.reduceEqDiff, Nat.reduceAdd, Nat.reduceMul, Nat.reduceSub, Nat.reduceLeDiff, Nat.reduceLT, true_and, and_true, reduceCtorEq, Nat.zero_add, Nat.add_zero, Nat.zero_mul, Nat.le_refl, Int.toNat_natCast, Bool.and_self, Bool.true_and, Bool.and_true, if_true, eq_self, forall_const, and_self, implies_true]; simp, by simp only [FitE, Le, LeL]; simp (maxSteps := 2000000) -implicitDefEqProofs only [↓Sy.PRE, Sy.POST, Nat.reduceDiv, Nat.reduceMod, Int.reduceLT, Int.reduceLE, Int.reduceToNat, Int.reduceAdd, decide_true, decide_false, ↓reduceIte, List.map_cons, List.map_nil, List.length_cons, List.length_nil, List.cons_append, List.nil_append, List.getElem?_cons_zero, List.getElem?_cons_succ, List.getElem?_nil, List.take_succ_cons, List.take_zero, List.drop_succ_cons, List.drop_zero, List.all_cons, List.all_nil, List.set_cons_zero, List.set_cons_succ, List.append_nil, Option.map_some, Option.map_none, cond_true, cond_false, Bool.true_eq_false, Bool.false_eq_true, Bool.not_true, Bool.not_false, Nat.reduceEqDiff, Nat.reduceAdd, Nat.reduceMul, Nat.reduceSub, Nat.reduceLeDiff, Nat.reduceLT, true_and, and_true, reduceCtorEq, Nat.zero_add, Nat.add_zero, Nat.zero_mul, Nat.le_refl, Int.toNat_natCast, Bool.and_self, Bool.true_and, Bool.and_true, if_true, eq_self, forall_const, and_self, implies_true]; try simp⟩
          · rename_i h2
            exact ⟨⟨3, by omega, next (by unfold metK; rw [nb2 h1, nb3 h2]; rfl)⟩, by simp only; omega, [0, 1], by simp, by simp only [FitM, ObLe, LeL, Le]; simp (maxSteps := 2000000) -implicitDefEqProofs only [↓Sy.PRE, Sy.POST, Nat.reduceDiv, Nat.reduceMod, Int.reduceLT, Int.reduceLE, Int.reduceToNat, Int.reduceAdd, decide_true, decide_false, ↓reduceIte, List.map_cons, List.map_nil, List.length_cons, List.length_nil, List.cons_append, List.nil_append, List.getElem?_cons_zero, List.getElem?_cons_succ, List.getElem?_nil, List.take_succ_cons, List.take_zero, List.drop_succ_cons, List.drop_zero, List.all_cons, List.all_nil, List.set_cons_zero, List.set_cons_succ, List.append_nil, Option.map_some, Option.map_none, cond_true, cond_false, Bool.true_eq_false, Bool.false_eq_true, Bool.not_true, Bool.not_false, Nat.reduceEqDiff, Nat.reduceAdd, Nat.reduceMul, Nat.reduceSub, Nat.reduceLeDiff, Nat.reduceLT, true_and, and_true, reduceCtorEq, Nat.zero_add, Nat.add_zero, Nat.zero_mul, Nat.le_refl, Int.toNat_natCast, Bool.and_self, Bool.true_and, Bool.and_true, if_true, eq_self, forall_const, and_self, implies_true]; simp, by simp only [FitE, Le, LeL]; simp (maxSteps := 2000000) -implicitDefEqProofs only [↓Sy.PRE, Sy.POST, Nat.reduceDiv, Nat.reduceMod, Int.reduceLT, Int.reduceLE, Int.reduceToNat, Int.reduceAdd, decide_true, decide_false, ↓reduceIte, List.map_cons, List.map_nil, List.length_cons, List.length_nil, List.cons_append, List.nil_append, List.getElem?_cons_zero, List.getElem?_cons_succ, List.getElem?_nil, List.take_succ_cons, List.take_zero, List.drop_succ_cons, List.drop_zero, List.all_cons, List.all_nil, List.set_cons_zero, List.set_cons_succ, List.append_nil, Option.map_some, Option.map_none, cond_true, cond_false, Bool.true_eq_false, Bool.false_eq_true, Bool.not_true, Bool.not_false, Nat.reduceEqDiff, Nat.reduceAdd, Nat.reduceMul, Nat.reduceSub, Nat.reduceLeDiff, Nat.reduceLT, true_and, and_true, reduceCtorEq, Nat.zero_add, Nat.add_zero, Nat.zero_mul, Nat.le_refl, Int.toNat_natCast, Bool.and_self, Bool.true_and, Bool.and_true, if_true, eq_self, forall_const, and_self, implies_true]; try simp⟩
      · simp (maxSteps := 2000000) -implicitDefEqProofs only [↓c98, Sy.w_64, ↓Sy.PRE, Sy.POST, Nat.reduceDiv, Nat.reduceMod, Int.reduceLT, Int.reduceLE, Int.reduceToNat, Int.reduceAdd, decide_true, decide_false, ↓reduceIte, List.map_cons, List.map_nil, List.length_cons, List.length_nil, List.cons_append, List.nil_append, List.getElem?_cons_zero, List.getElem?_cons_succ, List.getElem?_nil, List.take_succ_cons, List.take_zero, List.drop_succ_cons, List.drop_zero, List.all_cons, List.all_nil, List.set_cons_zero, List.set_cons_succ, List.append_nil, Option.map_some, Option.map_none, cond_true, cond_false, Bool.true_eq_false, Bool.false_eq_true, Bool.not_true, Bool.not_false, Nat.reduceEqDiff, Nat.reduceAdd, Nat.reduceMul, Nat.reduceSub, Nat.reduceLeDiff, Nat.reduceLT, true_and, and_true, reduceCtorEq, Nat.zero_add, Nat.add_zero, Nat.zero_mul, Nat.le_refl, Int.toNat_natCast, Bool.and_self, Bool.true_and, Bool.and_true, if_true, eq_self, forall_const, and_self, implies_true]
        have key : metK t3 x3 = false → k (.v (.bool false)) m := fun hk => by
          have : metF [t0, t1, t2, t3] [x0, x1, x2, x3] = false := by simp [metF, hk]
          rw [this] at h; exact h
        have next : metK t3 x3 = true → metF ([t0, t1, t2, t3].take 4) ([x0, x1, x2, x3].take 4) = true := fun hk => by
          simp [metF] at hall ⊢
          simp [hall, hk]
        split
        · rename_i h1
          exact key (by unfold metK; rw [nb1 h1]; rfl)
        · rename_i h1
          split
          · rename_i h2
            split
            · rename_i h3
              exact key (by unfold metK; rw [nb2 h1, nb1 h3, h2]; rfl)
            · rename_i h3
              exact ⟨⟨4, by omega, next (by unfold metK; rw [nb2 h1, nb2 h3]; cases (Tn.there _) <;> rfl)⟩, by simp only; omega, [0, 1], by simp, by simp only [FitM, ObLe, LeL, Le]; simp (maxSteps := 2000000) -implicitDefEqProofs only [↓Sy.PRE, Sy.POST, Nat.reduceDiv, Nat.reduceMod, Int.reduceLT, Int.reduceLE, Int.reduceToNat, Int.reduceAdd, decide_true, decide_false, ↓reduceIte, List.map_cons, List.map_nil, List.length_cons, List.length_nil, List.cons_append, List.nil_append, List.getElem?_cons_zero, List.getElem?_cons_succ, List.getElem?_nil, List.take_succ_cons, List.take_zero, List.drop_succ_cons, List.drop_zero, List.all_cons, List.all_nil, List.set_cons_zero, List.set_cons_succ, List.append_nil, Option.map_some, Option.map_none, cond_true, cond_false, Bool.true_eq_false, Bool.false_eq_true, Bool.not_true, Bool.not_false, Nat.reduceEqDiff, Nat.reduceAdd, Nat.reduceMul, Nat.reduceSub, Nat.reduceLeDiff, Nat.reduceLT, true_and, and_true, reduceCtorEq, Nat.zero_add, Nat.add_zero, Nat.zero_mul, Nat.le_refl, Int.toNat_natCast, Bool.and_self, Bool.true_and, Bool.and_true, if_true, eq_self, forall_const, and_self, implies_true]; simp, by simp only [FitE, Le, LeL]; simp (maxSteps := 2000000) -implicitDefEqProofs only [↓Sy.PRE, Sy.POST, Nat.reduceDiv, Nat.reduceMod, Int.reduceLT, Int.reduceLE, Int.reduceToNat, Int.reduceAdd, decide_true, decide_false, ↓reduceIte, List.map_cons, List.map_nil, List.length_cons, List.length_nil, List.cons_append, List.nil_append, List.getElem?_cons_zero, List.getElem?_cons_succ, List.getElem?_nil, List.take_succ_cons, List.take_zero, List.drop_succ_cons, List.drop_zero, List.all_cons, List.all_nil, List.set_cons_zero, List.set_cons_succ, List.append_nil, Option.map_some, Option.map_none, cond_true, cond_false, Bool.true_eq_false, Bool.false_eq_true, Bool.not_true, Bool.not_false, Nat.reduceEqDiff, Nat.reduceAdd, Nat.reduceMul, Nat.reduceSub, Nat.reduceLeDiff, Nat.reduceLT, true_and, and_true, reduceCtorEq, Nat.zero_add, Nat.add_zero, Nat.zero_mul, Nat.le_refl, Int.toNat_natCast, Bool.and_self, Bool.true_and, Bool.and_true, if_true, eq_self, forall_const, and_self, implies_true]; try simp⟩
          · rename_i h2
            exact ⟨⟨4, by omega, next (by unfold metK; rw [nb2 h1, nb3 h2]; rfl)⟩, by simp only; omega, [0, 1], by simp, by simp only [FitM, ObLe, LeL, Le]; simp (maxSteps := 2000000) -implicitDefEqProofs only [↓Sy.PRE, Sy.POST, Nat.reduceDiv, Nat.reduceMod, Int.reduceLT, Int.reduceLE, Int.reduceToNat, Int.reduceAdd, decide_true, decide_false, ↓reduceIte, List.map_cons, List.map_nil, List.length_cons, List.length_nil, List.cons_append, List.nil_append, List.getElem?_cons_zero, List.getElem?_cons_succ, List.getElem?_nil, List.take_succ_cons, List.take_zero, List.drop_succ_cons, List.drop_zero, List.all_cons, List.all_nil, List.set_cons_zero, List.set_cons_succ, List.append_nil, Option.map_some, Option.map_none, cond_true, cond_false, Bool.true_eq_false, Bool.false_eq_true, Bool.not_true, Bool.not_false, Nat.reduceEqDiff, Nat.reduceAdd, Nat.reduceMul, Nat.reduceSub, Nat.reduceLeDiff, Nat.reduceLT, true_and, and_true, reduceCtorEq, Nat.zero_add, Nat.add_zero, Nat.zero_mul, Nat.le_refl, Int.toNat_natCast, Bool.and_self, Bool.true_and, Bool.and_true, if_true, eq_self, forall_const, and_self, implies_true]; simp, by simp only [FitE, Le, LeL]; simp (maxSteps := 2000000) -implicitDefEqProofs only [↓Sy.PRE, Sy.POST, Nat.reduceDiv, Nat.reduceMod, Int.reduceLT, Int.reduceLE, Int.reduceToNat, Int.reduceAdd, decide_true, decide_false, ↓reduceIte, List.map_cons, List.map_nil, List.length_cons, List.length_nil, List.cons_append, List.nil_append, List.getElem?_cons_zero, List.getElem?_cons_succ, List.getElem?_nil, List.take_succ_cons, List.take_zero, List.drop_succ_cons, List.drop_zero, List.all_cons, List.all_nil, List.set_cons_zero, List.set_cons_succ, List.append_nil, Option.map_some, Option.map_none, cond_true, cond_false, Bool.true_eq_false, Bool.false_eq_true, Bool.not_true, Bool.not_false, Nat.reduceEqDiff, Nat.reduceAdd, Nat.reduceMul, Nat.reduceSub, Nat.reduceLeDiff, Nat.reduceLT, true_and, and_true, reduceCtorEq, Nat.zero_add, Nat.add_zero, Nat.zero_mul, Nat.le_refl, Int.toNat_natCast, Bool.and_self, Bool.true_and, Bool.and_true, if_true, eq_self, forall_const, and_self, implies_true]; try simp⟩
      · simp (maxSteps := 2000000) -implicitDefEqProofs only [↓Sy.PRE, Sy.POST, Nat.reduceDiv, Nat.reduceMod, Int.reduceLT, Int.reduceLE, Int.reduceToNat, Int.reduceAdd, decide_true, decide_false, ↓reduceIte, List.map_cons, List.map_nil, List.length_cons, List.length_nil, List.cons_append, List.nil_append, List.getElem?_cons_zero, List.getElem?_cons_succ, List.getElem?_nil, List.take_succ_cons, List.take_zero, List.drop_succ_cons, List.drop_zero, List.all_cons, List.all_nil, List.set_cons_zero, List.set_cons_succ, List.append_nil, Option.map_some, Option.map_none, cond_true, cond_false, Bool.true_eq_false, Bool.false_eq_true, Bool.not_true, Bool.not_false, Nat.reduceEqDiff, Nat.reduceAdd, Nat.reduceMul, Nat.reduceSub, Nat.reduceLeDiff, Nat.reduceLT, true_and, and_true, reduceCtorEq, Nat.zero_add, Nat.add_zero, Nat.zero_mul, Nat.le_refl, Int.toNat_natCast, Bool.and_self, Bool.true_and, Bool.and_true, if_true, eq_self, forall_const, and_self, implies_true]
        have : metF [t0, t1, t2, t3] [x0, x1, x2, x3] = true := hall
        rw [this] at h; exact h
  · exact h.elim
end Go.Proofs.Ytppndeoiifkkkaa
