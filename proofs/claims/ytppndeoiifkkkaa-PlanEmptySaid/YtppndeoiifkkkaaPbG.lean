/- Layer 49 (plan): the fixed calls, and PlanTells; by symbolic walks. -/
import Derived.Test.YtppndeoiifkkkaaPbF
namespace Go.Proofs.Ytppndeoiifkkkaa
open Go.RowKit Sy
set_option linter.unusedVariables false
set_option linter.unusedSimpArgs false
set_option maxHeartbeats 4000000
set_option maxRecDepth 20000
-- almshouse/almshouselaw49.fixed (0 parameters)
def x42 : XC := (.seq (.tree (.seq ⟨some 0, none, (.ofA (.mv (.cst (.v (.bool false)))))⟩
  .done))
 (.seq (.tree (.seq ⟨some 8, none, (.build [(.v (.int .i64 0)), (.v (.int .i64 0))] [])⟩
  (.seq ⟨some 9, none, (.build [(.v (.int .i64 0)), (.v (.int .i64 0))] [(0, 1, (.cst (.v (.int .i64 3)))), (1, 1, (.cst (.v (.int .i64 1))))])⟩
  (.seq ⟨some 10, none, (.build [(.v (.int .i64 0)), (.v (.int .i64 0)), (.v (.int .i64 0)), (.v (.int .i64 0)), (.v (.int .i64 0)), (.v (.int .i64 0)), (.v (.int .i64 0)), (.v (.int .i64 0))] [(0, 2, (.tmp 8)), (2, 2, (.tmp 9))])⟩
  (.seq ⟨some 1, none, (.alloc [(.v (.int .i64 0)), (.v (.int .i64 0)), (.v (.int .i64 0)), (.v (.int .i64 0)), (.v (.int .i64 0)), (.v (.int .i64 0)), (.v (.int .i64 0)), (.v (.int .i64 0))])⟩
  (.seq ⟨none, none, (.store 8 (.tmp 1) (.tmp 10))⟩
  .done))))))
 (.seq (.tree (.seq ⟨some 12, none, (.build [(.v (.int .i64 0)), (.v (.int .i64 0)), (.v (.bool false)), (.v (.int .i64 0)), (.v (.int .i64 0)), (.v (.int .i64 0)), (.v (.slice none 0 0)), (.v (.bool false)), (.v (.int .i64 0)), (.v (.int .i64 0)), (.v (.int .i64 0)), (.v (.slice none 0 0)), (.v (.bool false)), (.v (.int .i64 0)), (.v (.int .i64 0)), (.v (.int .i64 0)), (.v (.slice none 0 0)), (.v (.bool false)), (.v (.int .i64 0)), (.v (.int .i64 0)), (.v (.int .i64 0)), (.v (.slice none 0 0))] [])⟩
  (.seq ⟨some 13, none, (.ofA (.load (some 8) (.tmp 1)))⟩
  (.seq ⟨some 14, none, (.call (.cst (.fn 43 [])) [(.tmp 12), (.tmp 13)])⟩
  (.seq ⟨some 11, none, (.ofA (.mv (.tmp 14)))⟩
  (.seq ⟨some 15, none, (.ofA (.extract 0 (.tmp 11)))⟩
  (.seq ⟨some 16, none, (.ofA (.extract 1 (.tmp 11)))⟩
  (.seq ⟨some 2, none, (.ofA (.mv (.tmp 15)))⟩
  (.seq ⟨some 3, none, (.ofA (.mv (.tmp 16)))⟩
  .done)))))))))
 (.seq (.tree (.seq ⟨some 18, none, (.build [(.v (.int .i64 0)), (.v (.int .i64 0)), (.v (.bool false)), (.v (.int .i64 0)), (.v (.int .i64 0)), (.v (.int .i64 0)), (.v (.slice none 0 0)), (.v (.bool false)), (.v (.int .i64 0)), (.v (.int .i64 0)), (.v (.int .i64 0)), (.v (.slice none 0 0)), (.v (.bool false)), (.v (.int .i64 0)), (.v (.int .i64 0)), (.v (.int .i64 0)), (.v (.slice none 0 0)), (.v (.bool false)), (.v (.int .i64 0)), (.v (.int .i64 0)), (.v (.int .i64 0)), (.v (.slice none 0 0))] [])⟩
  (.seq ⟨some 19, none, (.build [(.v (.int .i64 0)), (.v (.int .i64 0)), (.v (.int .i64 0)), (.v (.int .i64 0)), (.v (.int .i64 0)), (.v (.int .i64 0)), (.v (.int .i64 0)), (.v (.int .i64 0))] [])⟩
  (.seq ⟨some 20, none, (.call (.cst (.fn 43 [])) [(.tmp 18), (.tmp 19)])⟩
  (.seq ⟨some 17, none, (.ofA (.mv (.tmp 20)))⟩
  (.seq ⟨some 21, none, (.ofA (.extract 0 (.tmp 17)))⟩
  (.seq ⟨some 22, none, (.ofA (.extract 1 (.tmp 17)))⟩
  (.seq ⟨some 4, none, (.ofA (.mv (.tmp 21)))⟩
  (.seq ⟨some 5, none, (.ofA (.mv (.tmp 22)))⟩
  .done)))))))))
 (.seq (.tree (.seq ⟨some 24, none, (.build [(.v (.int .i64 0)), (.v (.int .i64 0)), (.v (.bool false)), (.v (.int .i64 0)), (.v (.int .i64 0)), (.v (.int .i64 0)), (.v (.slice none 0 0)), (.v (.bool false)), (.v (.int .i64 0)), (.v (.int .i64 0)), (.v (.int .i64 0)), (.v (.slice none 0 0)), (.v (.bool false)), (.v (.int .i64 0)), (.v (.int .i64 0)), (.v (.int .i64 0)), (.v (.slice none 0 0)), (.v (.bool false)), (.v (.int .i64 0)), (.v (.int .i64 0)), (.v (.int .i64 0)), (.v (.slice none 0 0))] [])⟩
  (.seq ⟨some 25, none, (.build [(.v (.int .i64 0)), (.v (.int .i64 0))] [(0, 1, (.cst (.v (.int .i64 99))))])⟩
  (.seq ⟨some 26, none, (.build [(.v (.int .i64 0)), (.v (.int .i64 0)), (.v (.int .i64 0)), (.v (.int .i64 0)), (.v (.int .i64 0)), (.v (.int .i64 0)), (.v (.int .i64 0)), (.v (.int .i64 0))] [(0, 2, (.tmp 25))])⟩
  (.seq ⟨some 27, none, (.call (.cst (.fn 43 [])) [(.tmp 24), (.tmp 26)])⟩
  (.seq ⟨some 23, none, (.ofA (.mv (.tmp 27)))⟩
  (.seq ⟨some 28, none, (.ofA (.extract 0 (.tmp 23)))⟩
  (.seq ⟨some 29, none, (.ofA (.extract 1 (.tmp 23)))⟩
  (.seq ⟨some 6, none, (.ofA (.mv (.tmp 28)))⟩
  (.seq ⟨some 7, none, (.ofA (.mv (.tmp 29)))⟩
  .done))))))))))
 (.seq (.tree (.seq ⟨some 30, none, (.ofA (.mv (.tmp 3)))⟩
  (.seq ⟨some 31, none, (.ofA (.bin .eql (.tmp 30) (.cst (.v (.int .i64 0)))))⟩
  (.seq ⟨some 32, none, (.ofA (.mv (.tmp 31)))⟩
  (.seq ⟨some 33, some (32, true), (.ofA (.mv (.tmp 2)))⟩
  (.seq ⟨some 34, some (32, true), (.ofA (.len (.tmp 33)))⟩
  (.seq ⟨some 35, some (32, true), (.ofA (.bin .eql (.tmp 34) (.cst (.v (.int .i64 1)))))⟩
  (.seq ⟨some 36, none, (.ofA (.pick (.tmp 32) (.tmp 35) (.cst (.v (.bool false)))))⟩
  (.seq ⟨some 37, none, (.ofA (.mv (.tmp 36)))⟩
  (.seq ⟨some 38, some (37, true), (.ofA (.mv (.tmp 2)))⟩
  (.seq ⟨some 39, some (37, true), (.ofA (.isl 8 (.tmp 38) (.cst (.v (.int .i64 0)))))⟩
  (.seq ⟨some 40, some (37, true), (.ofA (.load (some 8) (.tmp 39)))⟩
  (.seq ⟨some 41, some (37, true), (.build [(.v (.int .i64 0)), (.v (.int .i64 0)), (.v (.int .i64 0)), (.v (.int .i64 0)), (.v (.int .i64 0)), (.v (.int .i64 0)), (.v (.int .i64 0)), (.v (.string ⟨#[]⟩))] [(0, 1, (.cst (.v (.int .i64 1)))), (1, 1, (.cst (.v (.int .i64 1)))), (3, 1, (.cst (.v (.int .i64 3)))), (4, 1, (.cst (.v (.int .i64 1))))])⟩
  (.seq ⟨some 42, some (37, true), (.ofA (.eqs false [.int, .int, .int, .int, .int, .int, .int, .str] (.tmp 40) (.tmp 41)))⟩
  (.seq ⟨some 43, none, (.ofA (.pick (.tmp 37) (.tmp 42) (.cst (.v (.bool false)))))⟩
  (.seq ⟨some 44, none, (.ofA (.mv (.tmp 43)))⟩
  (.seq ⟨some 45, some (44, true), (.ofA (.mv (.tmp 5)))⟩
  (.seq ⟨some 46, some (44, true), (.ofA (.bin .eql (.tmp 45) (.cst (.v (.int .i64 0)))))⟩
  (.seq ⟨some 47, none, (.ofA (.pick (.tmp 44) (.tmp 46) (.cst (.v (.bool false)))))⟩
  (.seq ⟨some 48, none, (.ofA (.mv (.tmp 47)))⟩
  (.seq ⟨some 49, some (48, true), (.ofA (.mv (.tmp 4)))⟩
  (.seq ⟨some 50, some (48, true), (.ofA (.len (.tmp 49)))⟩
  (.seq ⟨some 51, some (48, true), (.ofA (.bin .eql (.tmp 50) (.cst (.v (.int .i64 0)))))⟩
  (.seq ⟨some 52, none, (.ofA (.pick (.tmp 48) (.tmp 51) (.cst (.v (.bool false)))))⟩
  (.seq ⟨some 53, none, (.ofA (.mv (.tmp 52)))⟩
  (.seq ⟨some 54, some (53, true), (.ofA (.mv (.tmp 7)))⟩
  (.seq ⟨some 55, some (53, true), (.ofA (.bin .eql (.tmp 54) (.cst (.v (.int .i64 5)))))⟩
  (.seq ⟨some 56, none, (.ofA (.pick (.tmp 53) (.tmp 55) (.cst (.v (.bool false)))))⟩
  (.seq ⟨some 57, none, (.ofA (.mv (.tmp 56)))⟩
  (.seq ⟨some 58, some (57, true), (.build [(.v (.int .i64 0)), (.v (.int .i64 0)), (.v (.bool false)), (.v (.int .i64 0)), (.v (.int .i64 0)), (.v (.int .i64 0)), (.v (.slice none 0 0)), (.v (.bool false)), (.v (.int .i64 0)), (.v (.int .i64 0)), (.v (.int .i64 0)), (.v (.slice none 0 0)), (.v (.bool false)), (.v (.int .i64 0)), (.v (.int .i64 0)), (.v (.int .i64 0)), (.v (.slice none 0 0)), (.v (.bool false)), (.v (.int .i64 0)), (.v (.int .i64 0)), (.v (.int .i64 0)), (.v (.slice none 0 0))] [])⟩
  (.seq ⟨some 59, some (57, true), (.ofA (.load (some 8) (.tmp 1)))⟩
  (.seq ⟨some 60, some (57, true), (.call (.cst (.fn 44 [])) [(.tmp 58), (.tmp 59), (.cst (.v (.int .i64 4)))])⟩
  (.seq ⟨some 61, some (57, true), (.ofA (.bin .eql (.tmp 60) (.cst (.v (.int .i64 3)))))⟩
  (.seq ⟨some 62, none, (.ofA (.pick (.tmp 57) (.tmp 61) (.cst (.v (.bool false)))))⟩
  (.seq ⟨some 63, none, (.ofA (.mv (.tmp 62)))⟩
  (.seq ⟨some 64, some (63, true), (.build [(.v (.int .i64 0)), (.v (.int .i64 0)), (.v (.bool false)), (.v (.int .i64 0)), (.v (.int .i64 0)), (.v (.int .i64 0)), (.v (.slice none 0 0)), (.v (.bool false)), (.v (.int .i64 0)), (.v (.int .i64 0)), (.v (.int .i64 0)), (.v (.slice none 0 0)), (.v (.bool false)), (.v (.int .i64 0)), (.v (.int .i64 0)), (.v (.int .i64 0)), (.v (.slice none 0 0)), (.v (.bool false)), (.v (.int .i64 0)), (.v (.int .i64 0)), (.v (.int .i64 0)), (.v (.slice none 0 0))] [])⟩
  (.seq ⟨some 65, some (63, true), (.ofA (.load (some 8) (.tmp 1)))⟩
  (.seq ⟨some 66, some (63, true), (.call (.cst (.fn 47 [])) [(.tmp 64), (.tmp 65)])⟩
  (.seq ⟨some 67, some (63, true), (.ofA (.un .not (.tmp 66)))⟩
  (.seq ⟨some 68, none, (.ofA (.pick (.tmp 63) (.tmp 67) (.cst (.v (.bool false)))))⟩
  (.seq ⟨some 0, none, (.ofA (.mv (.tmp 68)))⟩
  .done)))))))))))))))))))))))))))))))))))))))))
 .ret))))))
def r42 : List XR := [.tmp 0]
theorem fn42 : FnX Try.prog 42 [] 69 x42 r42 := ⟨_, Try.func42, by kernel_rfl, by kernel_rfl, by kernel_rfl, by kernel_rfl⟩
-- almshouse/almshouselaw49.PlanTells (3 parameters)
def x8 : XC := (.seq (.tree (.seq ⟨some 3, none, (.box (.tmp 0))⟩
  (.seq ⟨some 4, none, (.box (.tmp 1))⟩
  (.seq ⟨some 6, none, (.ofA (.mv (.cst (.v (.bool false)))))⟩
  .done))))
 (.seq (.seq (.tree (.seq ⟨some 13, none, (.call (.cst (.fn 42 [])) [])⟩
  (.seq ⟨some 14, none, (.ofA (.un .not (.tmp 13)))⟩
  .done)))
 (.cond (.tmp 14)
 (.seq (.tree (.seq ⟨some 6, none, (.ofA (.mv (.cst (.v (.bool false)))))⟩
  .done))
 .ret)
 .skip))
 (.seq (.seq (.tree (.seq ⟨some 15, none, (.ofA (.faddr 2 (.tmp 3)))⟩
  (.seq ⟨some 16, none, (.ofA (.load (some 20) (.tmp 15)))⟩
  (.seq ⟨some 17, none, (.ofA (.mv (.cst (.v (.int .i64 0)))))⟩
  .done))))
 (.block 0 (.loop (.seq (.tree (.seq ⟨some 18, none, (.ofA (.bin .lss (.tmp 17) (.cst (.v (.int .i64 4)))))⟩
  .done))
 (.seq (.cond (.tmp 18)
 .skip
 (.exit 0))
 (.seq (.block 1 (.seq (.tree (.seq ⟨some 19, none, (.ofA (.idx 4 5 true (.tmp 16) (.tmp 17)))⟩
  (.seq ⟨some 8, none, (.alloc [(.v (.bool false)), (.v (.int .i64 0)), (.v (.int .i64 0)), (.v (.int .i64 0)), (.v (.slice none 0 0))])⟩
  (.seq ⟨none, none, (.store 5 (.tmp 8) (.tmp 19))⟩
  .done))))
 (.seq (.tree (.seq ⟨some 20, none, (.ofA (.faddr 4 (.tmp 8)))⟩
  (.seq ⟨some 21, none, (.ofA (.load none (.tmp 20)))⟩
  (.seq ⟨some 22, none, (.ofA (.len (.tmp 21)))⟩
  (.seq ⟨some 23, none, (.ofA (.bin .gtr (.tmp 22) (.cst (.v (.int .i64 80)))))⟩
  .done)))))
 (.cond (.tmp 23)
 (.seq (.tree (.seq ⟨some 6, none, (.ofA (.mv (.cst (.v (.bool true)))))⟩
  .done))
 .ret)
 .skip))))
 (.tree (.seq ⟨some 24, none, (.ofA (.bin .add (.tmp 17) (.cst (.v (.int .i64 1)))))⟩
  (.seq ⟨some 17, none, (.ofA (.mv (.tmp 24)))⟩
  .done)))))))))
 (.seq (.tree (.seq ⟨some 26, none, (.ofA (.load (some 22) (.tmp 3)))⟩
  (.seq ⟨some 27, none, (.ofA (.load (some 8) (.tmp 4)))⟩
  (.seq ⟨some 28, none, (.call (.cst (.fn 43 [])) [(.tmp 26), (.tmp 27)])⟩
  (.seq ⟨some 25, none, (.ofA (.mv (.tmp 28)))⟩
  (.seq ⟨some 29, none, (.ofA (.extract 0 (.tmp 25)))⟩
  (.seq ⟨some 30, none, (.ofA (.extract 1 (.tmp 25)))⟩
  (.seq ⟨some 9, none, (.ofA (.mv (.tmp 29)))⟩
  (.seq ⟨some 10, none, (.ofA (.mv (.tmp 30)))⟩
  .done)))))))))
 (.seq (.seq (.tree (.take ⟨some 31, none, (.ofA (.load (some 22) (.tmp 3)))⟩
  (.take ⟨some 32, none, (.ofA (.load (some 8) (.tmp 4)))⟩
  (.take ⟨some 33, none, (.ofA (.mv (.tmp 2)))⟩
  (.take ⟨some 35, none, (.ofA (.load (some 22) (.tmp 3)))⟩
  (.take ⟨some 36, none, (.ofA (.load (some 8) (.tmp 4)))⟩
  (.take ⟨some 38, none, (.ofA (.mv (.tmp 2)))⟩
  (.act true [(⟨some 34, none, (.call (.cst (.fn 44 [])) [(.tmp 31), (.tmp 32), (.tmp 33)])⟩,
 (.act true [(⟨some 37, none, (.call (.cst (.fn 46 [])) [(.tmp 36)])⟩,
 (.act true [(⟨some 39, none, (.call (.cst (.fn 45 [])) [(.tmp 35), (.tmp 37), (.tmp 38)])⟩,
 (.take ⟨some 40, none, (.ofA (.bin .neq (.tmp 34) (.tmp 39)))⟩
  (.take ⟨some 41, none, (.ofA (.mv (.tmp 40)))⟩
  (.take ⟨some 42, some (41, false), (.ofA (.load (some 22) (.tmp 3)))⟩
  (.take ⟨some 43, some (41, false), (.ofA (.load (some 8) (.tmp 4)))⟩
  (.take ⟨some 45, some (41, false), (.ofA (.load (some 22) (.tmp 3)))⟩
  (.take ⟨some 46, some (41, false), (.ofA (.load (some 8) (.tmp 4)))⟩
  (.act true [(⟨some 44, some (41, false), (.call (.cst (.fn 47 [])) [(.tmp 42), (.tmp 43)])⟩,
 (.act true [(⟨some 47, some (41, false), (.call (.cst (.fn 46 [])) [(.tmp 46)])⟩,
 (.act true [(⟨some 48, some (41, false), (.call (.cst (.fn 48 [])) [(.tmp 45), (.tmp 47)])⟩,
 (.take ⟨some 49, some (41, false), (.ofA (.eqb true (.tmp 44) (.tmp 48)))⟩
  (.take ⟨some 50, none, (.ofA (.pick (.tmp 41) (.cst (.v (.bool true))) (.tmp 49)))⟩
  .done)))]))]))]))))))))]))]))]))))))))
 (.cond (.tmp 50)
 (.seq (.tree (.seq ⟨some 6, none, (.ofA (.mv (.cst (.v (.bool false)))))⟩
  .done))
 .ret)
 .skip))
 (.seq (.seq (.tree (.seq ⟨some 51, none, (.ofA (.load (some 8) (.tmp 4)))⟩
  (.seq ⟨some 52, none, (.call (.cst (.fn 46 [])) [(.tmp 51)])⟩
  (.seq ⟨some 53, none, (.call (.cst (.fn 49 [])) [(.tmp 52)])⟩
  (.seq ⟨some 54, none, (.ofA (.un .not (.tmp 53)))⟩
  .done)))))
 (.cond (.tmp 54)
 (.seq (.tree (.seq ⟨some 55, none, (.ofA (.mv (.tmp 10)))⟩
  (.seq ⟨some 56, none, (.ofA (.bin .eql (.tmp 55) (.cst (.v (.int .i64 5)))))⟩
  (.seq ⟨some 57, none, (.ofA (.mv (.tmp 56)))⟩
  (.seq ⟨some 58, some (57, true), (.ofA (.mv (.tmp 9)))⟩
  (.seq ⟨some 59, some (57, true), (.ofA (.len (.tmp 58)))⟩
  (.seq ⟨some 60, some (57, true), (.ofA (.bin .eql (.tmp 59) (.cst (.v (.int .i64 0)))))⟩
  (.seq ⟨some 61, none, (.ofA (.pick (.tmp 57) (.tmp 60) (.cst (.v (.bool false)))))⟩
  (.seq ⟨some 6, none, (.ofA (.mv (.tmp 61)))⟩
  .done)))))))))
 .ret)
 .skip))
 (.seq (.tree (.take ⟨some 62, none, (.ofA (.load (some 22) (.tmp 3)))⟩
  (.take ⟨some 63, none, (.ofA (.load (some 8) (.tmp 4)))⟩
  (.act true [(⟨some 64, none, (.call (.cst (.fn 46 [])) [(.tmp 63)])⟩,
 (.act true [(⟨some 65, none, (.call (.cst (.fn 50 [])) [(.tmp 62), (.tmp 64)])⟩,
 (.take ⟨some 11, none, (.ofA (.mv (.tmp 65)))⟩
  .done))]))]))))
 (.seq (.seq (.tree (.seq ⟨some 66, none, (.ofA (.mv (.tmp 10)))⟩
  (.seq ⟨some 67, none, (.ofA (.bin .neq (.tmp 66) (.cst (.v (.int .i64 0)))))⟩
  (.seq ⟨some 68, none, (.ofA (.mv (.tmp 67)))⟩
  (.seq ⟨some 69, some (68, false), (.ofA (.mv (.tmp 9)))⟩
  (.seq ⟨some 70, some (68, false), (.ofA (.len (.tmp 69)))⟩
  (.seq ⟨some 71, some (68, false), (.ofA (.mv (.tmp 11)))⟩
  (.seq ⟨some 72, some (68, false), (.ofA (.len (.tmp 71)))⟩
  (.seq ⟨some 73, some (68, false), (.ofA (.bin .neq (.tmp 70) (.tmp 72)))⟩
  (.seq ⟨some 74, none, (.ofA (.pick (.tmp 68) (.cst (.v (.bool true))) (.tmp 73)))⟩
  .done))))))))))
 (.cond (.tmp 74)
 (.seq (.tree (.seq ⟨some 6, none, (.ofA (.mv (.cst (.v (.bool false)))))⟩
  .done))
 .ret)
 .skip))
 (.seq (.seq (.tree (.seq ⟨some 75, none, (.ofA (.mv (.tmp 9)))⟩
  (.seq ⟨some 76, none, (.ofA (.len (.tmp 75)))⟩
  (.seq ⟨some 77, none, (.ofA (.mv (.cst (.v (.int .i64 0)))))⟩
  .done))))
 (.block 2 (.loop (.seq (.tree (.seq ⟨some 78, none, (.ofA (.bin .lss (.tmp 77) (.tmp 76)))⟩
  .done))
 (.seq (.cond (.tmp 78)
 .skip
 (.exit 2))
 (.seq (.block 3 (.seq (.tree (.seq ⟨some 79, none, (.ofA (.mv (.tmp 77)))⟩
  (.seq ⟨some 12, none, (.ofA (.mv (.tmp 79)))⟩
  .done)))
 (.seq (.tree (.take ⟨some 80, none, (.ofA (.mv (.tmp 9)))⟩
  (.take ⟨some 81, none, (.ofA (.mv (.tmp 12)))⟩
  (.take ⟨some 82, none, (.ofA (.isl 8 (.tmp 80) (.tmp 81)))⟩
  (.take ⟨some 83, none, (.ofA (.load (some 8) (.tmp 82)))⟩
  (.take ⟨some 84, none, (.ofA (.mv (.tmp 11)))⟩
  (.take ⟨some 85, none, (.ofA (.mv (.tmp 12)))⟩
  (.take ⟨some 86, none, (.ofA (.isl 8 (.tmp 84) (.tmp 85)))⟩
  (.take ⟨some 87, none, (.ofA (.load (some 8) (.tmp 86)))⟩
  (.take ⟨some 88, none, (.ofA (.eqs true [.int, .int, .int, .int, .int, .int, .int, .str] (.tmp 83) (.tmp 87)))⟩
  .done))))))))))
 (.cond (.tmp 88)
 (.seq (.tree (.seq ⟨some 6, none, (.ofA (.mv (.cst (.v (.bool false)))))⟩
  .done))
 .ret)
 .skip))))
 (.tree (.seq ⟨some 89, none, (.ofA (.bin .add (.tmp 77) (.cst (.v (.int .i64 1)))))⟩
  (.seq ⟨some 77, none, (.ofA (.mv (.tmp 89)))⟩
  .done)))))))))
 (.seq (.tree (.seq ⟨some 6, none, (.ofA (.mv (.cst (.v (.bool true)))))⟩
  .done))
 .ret))))))))))
def r8 : List XR := [.tmp 6]
theorem fn8 : FnX Try.prog 8 [] 90 x8 r8 := ⟨_, Try.func8, by kernel_rfl, by kernel_rfl, by kernel_rfl, by kernel_rfl⟩

@[congr] theorem ledK_c {o o' : Option (List Tn)} {p p' : Option (List Wi)} {F : List Tn → List Wi → Prop} (h : o = o') (h2 : p = p') : ledK o p F = ledK o' p' F := by rw [h, h2]
@[congr] theorem wisK_c {p p' : Option (List Wi)} {F : List Wi → Prop} (h2 : p = p') : wisK p F = wisK p' F := by rw [h2]
/-- What comes then, where no reckoning looks. -/
class PBox where
  q : Post
def TXi (P : Program) (N : Nat) (eff : List FuncId) (x : XC) (e : Env) (m : Mem) [b : PBox] : Prop := TX P N eff x e m b.q
theorem s_loopi {P : Program} {N : Nat} {eff : List FuncId} {G : List CEntry} {e : Env} {m : Mem} {Q : Post} {a : XC} : evX P N eff G (.loop a) e m Q = @TXi P N eff (.loop a) e m ⟨Q⟩ := Eq.trans rfl rfl
theorem v_pq {Q : Post} {ex : Exit} {e : Env} {m : Mem} : @PBox.q ⟨Q⟩ ex e m = Q ex e m := Eq.trans rfl rfl
theorem TXi_of {P : Program} {N : Nat} {eff : List FuncId} {e : Env} {m : Mem} {Q : Post} {x : XC} (h : TX P N eff x e m Q) : @TXi P N eff x e m ⟨Q⟩ := h
theorem ledK_of {ts : List Tn} {xs : List Wi} (h : ts.length = 4) (h2 : xs.length = 4) (F : List Tn → List Wi → Prop) : ledK (some ts) (some xs) F = F ts xs := by
  match ts, xs, h, h2 with
  | [_, _, _, _], [_, _, _, _], _, _ => rfl
theorem wisK_of {xs : List Wi} (h2 : xs.length = 4) (F : List Wi → Prop) : wisK (some xs) F = F xs := by
  match xs, h2 with
  | [_, _, _, _], _ => rfl
theorem decT_flat : ∀ ts : List Tn, decT (ts.flatMap tS) = some ts
  | [] => rfl
  | t :: ts => by
    simp only [List.flatMap_cons, tS, List.cons_append, List.nil_append, decT, decT_flat ts, Option.map_some]
theorem decW_flat : ∀ xs : List Wi, decW (xs.flatMap wS) = some xs
  | [] => rfl
  | x :: xs => by
    simp only [List.flatMap_cons, wS, List.cons_append, List.nil_append, decW, decW_flat xs, Option.map_some]
def c42 : Trans := fun args m k => match args with
  | [] => k (.v (.bool true)) m
  | _ => False
theorem g42 : GOk Try.prog [⟨43, true, c43⟩, ⟨44, true, c44⟩, ⟨47, true, c47⟩] := GOk.cons c43_ok (GOk.cons c44_ok (GOk.cons c47_ok g0))
theorem c42_ok : Contract Try.prog 42 true c42 := by
  refine .plainArgs fn42 g42 _ fun args m k h => ?_
  unfold c42 at h
  split at h
  · refine ⟨rfl, by simp, ?_⟩
    have dE : decT [.v (.bool false), .v (.int .i64 0), .v (.int .i64 0), .v (.int .i64 0), .v (.slice none 0 0), .v (.bool false), .v (.int .i64 0), .v (.int .i64 0), .v (.int .i64 0), .v (.slice none 0 0), .v (.bool false), .v (.int .i64 0), .v (.int .i64 0), .v (.int .i64 0), .v (.slice none 0 0), .v (.bool false), .v (.int .i64 0), .v (.int .i64 0), .v (.int .i64 0), .v (.slice none 0 0)] = some ([⟨false, 0, 0, 0, none, 0, 0⟩, ⟨false, 0, 0, 0, none, 0, 0⟩, ⟨false, 0, 0, 0, none, 0, 0⟩, ⟨false, 0, 0, 0, none, 0, 0⟩] : List Tn) := rfl
    have d1 : decW [.v (.int .i64 0), .v (.int .i64 0), .v (.int .i64 3), .v (.int .i64 1), .v (.int .i64 0), .v (.int .i64 0), .v (.int .i64 0), .v (.int .i64 0)] = some ([⟨0, 0⟩, ⟨3, 1⟩, ⟨0, 0⟩, ⟨0, 0⟩] : List Wi) := rfl
    have d2 : decW [.v (.int .i64 0), .v (.int .i64 0), .v (.int .i64 0), .v (.int .i64 0), .v (.int .i64 0), .v (.int .i64 0), .v (.int .i64 0), .v (.int .i64 0)] = some ([⟨0, 0⟩, ⟨0, 0⟩, ⟨0, 0⟩, ⟨0, 0⟩] : List Wi) := rfl
    have d3 : decW [.v (.int .i64 99), .v (.int .i64 0), .v (.int .i64 0), .v (.int .i64 0), .v (.int .i64 0), .v (.int .i64 0), .v (.int .i64 0), .v (.int .i64 0)] = some ([⟨99, 0⟩, ⟨0, 0⟩, ⟨0, 0⟩, ⟨0, 0⟩] : List Wi) := rfl
    have k1 : ∀ F, ledK (some ([⟨false, 0, 0, 0, none, 0, 0⟩, ⟨false, 0, 0, 0, none, 0, 0⟩, ⟨false, 0, 0, 0, none, 0, 0⟩, ⟨false, 0, 0, 0, none, 0, 0⟩] : List Tn)) (some ([⟨0, 0⟩, ⟨3, 1⟩, ⟨0, 0⟩, ⟨0, 0⟩] : List Wi)) F = F ([⟨false, 0, 0, 0, none, 0, 0⟩, ⟨false, 0, 0, 0, none, 0, 0⟩, ⟨false, 0, 0, 0, none, 0, 0⟩, ⟨false, 0, 0, 0, none, 0, 0⟩] : List Tn) ([⟨0, 0⟩, ⟨3, 1⟩, ⟨0, 0⟩, ⟨0, 0⟩] : List Wi) := fun F => rfl
    have k2 : ∀ F, ledK (some ([⟨false, 0, 0, 0, none, 0, 0⟩, ⟨false, 0, 0, 0, none, 0, 0⟩, ⟨false, 0, 0, 0, none, 0, 0⟩, ⟨false, 0, 0, 0, none, 0, 0⟩] : List Tn)) (some ([⟨0, 0⟩, ⟨0, 0⟩, ⟨0, 0⟩, ⟨0, 0⟩] : List Wi)) F = F ([⟨false, 0, 0, 0, none, 0, 0⟩, ⟨false, 0, 0, 0, none, 0, 0⟩, ⟨false, 0, 0, 0, none, 0, 0⟩, ⟨false, 0, 0, 0, none, 0, 0⟩] : List Tn) ([⟨0, 0⟩, ⟨0, 0⟩, ⟨0, 0⟩, ⟨0, 0⟩] : List Wi) := fun F => rfl
    have k3 : ∀ F, ledK (some ([⟨false, 0, 0, 0, none, 0, 0⟩, ⟨false, 0, 0, 0, none, 0, 0⟩, ⟨false, 0, 0, 0, none, 0, 0⟩, ⟨false, 0, 0, 0, none, 0, 0⟩] : List Tn)) (some ([⟨99, 0⟩, ⟨0, 0⟩, ⟨0, 0⟩, ⟨0, 0⟩] : List Wi)) F = F ([⟨false, 0, 0, 0, none, 0, 0⟩, ⟨false, 0, 0, 0, none, 0, 0⟩, ⟨false, 0, 0, 0, none, 0, 0⟩, ⟨false, 0, 0, 0, none, 0, 0⟩] : List Tn) ([⟨99, 0⟩, ⟨0, 0⟩, ⟨0, 0⟩, ⟨0, 0⟩] : List Wi) := fun F => rfl
    have r1 : rightF ([⟨0, 0⟩, ⟨3, 1⟩, ⟨0, 0⟩, ⟨0, 0⟩] : List Wi) = true := by decide
    have r2 : rightF ([⟨0, 0⟩, ⟨0, 0⟩, ⟨0, 0⟩, ⟨0, 0⟩] : List Wi) = true := by decide
    have r3 : rightF ([⟨99, 0⟩, ⟨0, 0⟩, ⟨0, 0⟩, ⟨0, 0⟩] : List Wi) = false := by decide
    have p1 : planF ([⟨false, 0, 0, 0, none, 0, 0⟩, ⟨false, 0, 0, 0, none, 0, 0⟩, ⟨false, 0, 0, 0, none, 0, 0⟩, ⟨false, 0, 0, 0, none, 0, 0⟩] : List Tn) ([⟨0, 0⟩, ⟨3, 1⟩, ⟨0, 0⟩, ⟨0, 0⟩] : List Wi) = [spS 1 1 3 1] := by rfl
    have p2 : planF ([⟨false, 0, 0, 0, none, 0, 0⟩, ⟨false, 0, 0, 0, none, 0, 0⟩, ⟨false, 0, 0, 0, none, 0, 0⟩, ⟨false, 0, 0, 0, none, 0, 0⟩] : List Tn) ([⟨0, 0⟩, ⟨0, 0⟩, ⟨0, 0⟩, ⟨0, 0⟩] : List Wi) = [] := by rfl
    have v1 : ∀ k, outV k [spS 1 1 3 1] = .row k 0 1 8 := fun k => rfl
    have m1 : outM [spS 1 1 3 1] = [⟨true, [.v (.int .i64 1), .v (.int .i64 1), .v (.int .i64 0), .v (.int .i64 3), .v (.int .i64 1), .v (.int .i64 0), .v (.int .i64 0), .v (.string ⟨#[]⟩)]⟩] := rfl
    have n1 : needF 4 ([⟨false, 0, 0, 0, none, 0, 0⟩, ⟨false, 0, 0, 0, none, 0, 0⟩, ⟨false, 0, 0, 0, none, 0, 0⟩, ⟨false, 0, 0, 0, none, 0, 0⟩] : List Tn) ([⟨0, 0⟩, ⟨3, 1⟩, ⟨0, 0⟩, ⟨0, 0⟩] : List Wi) = 3 := by decide
    have q1 : metF ([⟨false, 0, 0, 0, none, 0, 0⟩, ⟨false, 0, 0, 0, none, 0, 0⟩, ⟨false, 0, 0, 0, none, 0, 0⟩, ⟨false, 0, 0, 0, none, 0, 0⟩] : List Tn) ([⟨0, 0⟩, ⟨3, 1⟩, ⟨0, 0⟩, ⟨0, 0⟩] : List Wi) = false := by decide
    simp (maxSteps := 2000000) -implicitDefEqProofs only [↓x42, ↓r42, ↓c43, ↓c44, ↓c47, dE, d1, d2, d3, k1, k2, k3, r1, r2, r3, p1, p2, v1, m1, n1, q1, outV_nil, outM_nil, Sy.w_64, ↓s_loopi, ↓v_pq, ↓Sy.PRE, Sy.POST, Nat.reduceDiv, Nat.reduceMod, Int.reduceLT, Int.reduceLE, Int.reduceToNat, Int.reduceAdd, decide_true, decide_false, ↓reduceIte, List.map_cons, List.map_nil, List.length_cons, List.length_nil, List.cons_append, List.nil_append, List.getElem?_cons_zero, List.getElem?_cons_succ, List.getElem?_nil, List.take_succ_cons, List.take_zero, List.drop_succ_cons, List.drop_zero, List.all_cons, List.all_nil, List.set_cons_zero, List.set_cons_succ, List.append_nil, Option.map_some, Option.map_none, cond_true, cond_false, Bool.true_eq_false, Bool.false_eq_true, Bool.not_true, Bool.not_false, Nat.reduceEqDiff, Nat.reduceAdd, Nat.reduceMul, Nat.reduceSub, Nat.reduceLeDiff, Nat.reduceLT, true_and, and_true, reduceCtorEq, Nat.zero_add, Nat.add_zero, Nat.zero_mul, Nat.le_refl, Int.toNat_natCast, Bool.and_self, Bool.true_and, Bool.and_true, if_true, eq_self, forall_const, and_self, implies_true]
    simp only [beq_self_eq_true, Bool.and_self, if_true]
    exact h
  · exact h.elim
def Sp (l : List (List SV)) : Prop := ∀ s ∈ l, ∃ k t a b, s = spS k t a b
theorem Sp.app {k l : List (List SV)} (h : Sp k) (h2 : Sp l) : Sp (k ++ l) := fun s hs => by
  rcases List.mem_append.1 hs with hs | hs
  · exact h s hs
  · exact h2 s hs
theorem goneF_sp (t : Tn) (x : Wi) (i : Int) : Sp (goneF t x i) := by
  unfold goneF; split
  · intro s hs; simp at hs; subst hs; exact ⟨_, _, _, _, rfl⟩
  · intro s hs; simp at hs
theorem sizedF_sp (t : Tn) (x : Wi) (i : Int) : Sp (sizedF t x i) := by
  unfold sizedF; split
  · intro s hs; simp at hs; subst hs; exact ⟨_, _, _, _, rfl⟩
  · intro s hs; simp at hs
theorem madeF_sp (t : Tn) (x : Wi) (i : Int) : Sp (madeF t x i) := by
  unfold madeF; split
  · intro s hs; simp at hs; subst hs; exact ⟨_, _, _, _, rfl⟩
  · intro s hs; simp at hs
theorem ph_sp {F : Tn → Wi → Int → List (List SV)} (hF : ∀ t x i, Sp (F t x i)) : ∀ (i : Nat) (ts : List Tn) (xs : List Wi), Sp (ph F i ts xs)
  | i, [], xs => by simp only [ph]; intro s hs; simp at hs
  | i, t :: ts, [] => by simp only [ph]; intro s hs; simp at hs
  | i, t :: ts, x :: xs => by
    simp only [ph]
    exact (hF t x _).app (ph_sp hF (i + 1) ts xs)
theorem planF_sp (ts : List Tn) (xs : List Wi) : Sp (planF ts xs) := ((ph_sp goneF_sp 0 ts xs).app (ph_sp sizedF_sp 0 ts xs)).app (ph_sp madeF_sp 0 ts xs)
theorem planF_ok (ts : List Tn) (xs : List Wi) (h : ts.length = 4) : Good 12 (planF ts xs) := accF_ok ts xs h 3 0
theorem flat_at : ∀ {n : Nat} {l : List (List SV)} (x : Nat) (h : x < l.length), Good n l → (l.flatten.drop (x * 8)).take 8 = l[x]
  | n, s :: l, 0, h, hg => by
    have h8 := (hg.2 s (by simp)).1
    simp only [Nat.zero_mul, List.drop_zero, List.flatten_cons, List.getElem_cons_zero]
    rw [List.take_append_of_le_length (by omega), List.take_of_length_le (by omega)]
  | n, s :: l, x + 1, h, hg => by
    have h8 := (hg.2 s (by simp)).1
    have e : (x + 1) * 8 = s.length + x * 8 := by omega
    rw [e, List.flatten_cons, List.drop_append, List.drop_of_length_le (by omega), List.nil_append]
    simp only [List.getElem_cons_succ, Nat.add_sub_cancel_left]
    exact flat_at (n := l.length) x (by simpa using h) ⟨Nat.le_refl _, fun y hy => hg.2 y (by simp [hy])⟩
def c8 : Trans := fun args m k => match args with
  | [.agg (.v g :: .v e :: l), .agg w, .v (.int .i64 p)] => ledK (decT l) (decW w) fun _ _ => k (.v (.bool true)) m
  | _ => False
theorem g8 : GOk Try.prog [⟨42, true, c42⟩, ⟨43, true, c43⟩, ⟨44, true, c44⟩, ⟨45, true, c44⟩, ⟨46, true, c46⟩, ⟨47, true, c47⟩, ⟨48, true, c47⟩, ⟨49, true, c49⟩, ⟨50, true, c50⟩] :=
  GOk.cons c42_ok (GOk.cons c43_ok (GOk.cons c44_ok (GOk.cons c45_ok (GOk.cons c46_ok (GOk.cons c47_ok (GOk.cons c48_ok (GOk.cons c49_ok (GOk.cons c50_ok g0))))))))
theorem c8_ok : Contract Try.prog 8 true c8 := by
  refine .plainArgs fn8 g8 _ fun args m k h => ?_
  unfold c8 at h
  split at h
  · rename_i g e l w p
    obtain ⟨t0, t1, t2, t3, x0, x1, x2, x3, d1, d2, hk⟩ := ledK_inv h
    clear h
    have h := hk
    clear hk
    obtain rfl := decT_inv d1
    obtain rfl := decW_inv d2
    clear d1 d2
    obtain ⟨ts, hts⟩ : ∃ ts, ts = [t0, t1, t2, t3] := ⟨_, rfl⟩
    obtain ⟨xs, hxs⟩ : ∃ xs, xs = [x0, x1, x2, x3] := ⟨_, rfl⟩
    rw [← hts, ← hxs]
    have lt : ts.length = 4 := by rw [hts]; rfl
    have lx : xs.length = 4 := by rw [hxs]; rfl
    clear hts hxs t0 t1 t2 t3 x0 x1 x2 x3
    have pL := led_plain ts
    have pW := wis_plain xs
    have LL : (ts.flatMap tS).length = 20 := by rw [led_len, lt]
    have LW : (xs.flatMap wS).length = 8 := by rw [wis_len, lx]
    have tL : (ts.flatMap tS).take 20 = ts.flatMap tS := List.take_of_length_le (by omega)
    have tW : (xs.flatMap wS).take 8 = xs.flatMap wS := List.take_of_length_le (by omega)
    have pL' : ∀ g, LeL g (ts.flatMap tS) (ts.flatMap tS) := fun g => LeL_plain g pL
    have pW' : ∀ g, LeL g (xs.flatMap wS) (xs.flatMap wS) := fun g => LeL_plain g pW
    have dE := decT_flat ts
    have dF := decW_flat xs
    have eK := ledK_of lt lx
    have eW := wisK_of lx
    have hP := planF_ok ts xs lt
    have oP := planF_sp ts xs
    refine ⟨by simp only [Sy.p_c, Sy.p_agg, Sy.p_v, Sy.p_0, pL, pW, Bool.and_self], by simp, ?_⟩
    simp (maxSteps := 2000000) -implicitDefEqProofs only [↓x8, ↓r8, ↓c42, LL, LW, tL, ↓s_loopi, ↓v_pq, ↓Sy.PRE, Sy.POST, Nat.reduceDiv, Nat.reduceMod, Int.reduceLT, Int.reduceLE, Int.reduceToNat, Int.reduceAdd, decide_true, decide_false, ↓reduceIte, List.map_cons, List.map_nil, List.length_cons, List.length_nil, List.cons_append, List.nil_append, List.getElem?_cons_zero, List.getElem?_cons_succ, List.getElem?_nil, List.take_succ_cons, List.take_zero, List.drop_succ_cons, List.drop_zero, List.all_cons, List.all_nil, List.set_cons_zero, List.set_cons_succ, List.append_nil, Option.map_some, Option.map_none, cond_true, cond_false, Bool.true_eq_false, Bool.false_eq_true, Bool.not_true, Bool.not_false, Nat.reduceEqDiff, Nat.reduceAdd, Nat.reduceMul, Nat.reduceSub, Nat.reduceLeDiff, Nat.reduceLT, true_and, and_true, reduceCtorEq, Nat.zero_add, Nat.add_zero, Nat.zero_mul, Nat.le_refl, Int.toNat_natCast, Bool.and_self, Bool.true_and, Bool.and_true, if_true, eq_self, forall_const, and_self, implies_true]
    refine TXi_of ?_
    refine TX_loop g8 (X := { x : Nat // x ≤ 4 }) (fun x => [(2, .v (.int .i64 p)), (3, .ptr 0 0), (4, .ptr 1 0), (16, .agg (ts.flatMap tS)), (17, .v (.int .i64 (x.1 : Int)))]) (fun _ => [⟨true, .v g :: .v e :: ts.flatMap tS⟩, ⟨true, xs.flatMap wS⟩]) (fun x => 4 - x.1) ⟨0, by omega⟩ ?_ ?_
    · exact ⟨[0, 1], by simp, by simp only [FitM, ObLe, LeL, Le, List.cons_append, List.nil_append]; simp (maxSteps := 2000000) -implicitDefEqProofs only [pL', pW', ↓s_loopi, ↓v_pq, ↓Sy.PRE, Sy.POST, Nat.reduceDiv, Nat.reduceMod, Int.reduceLT, Int.reduceLE, Int.reduceToNat, Int.reduceAdd, decide_true, decide_false, ↓reduceIte, List.map_cons, List.map_nil, List.length_cons, List.length_nil, List.cons_append, List.nil_append, List.getElem?_cons_zero, List.getElem?_cons_succ, List.getElem?_nil, List.take_succ_cons, List.take_zero, List.drop_succ_cons, List.drop_zero, List.all_cons, List.all_nil, List.set_cons_zero, List.set_cons_succ, List.append_nil, Option.map_some, Option.map_none, cond_true, cond_false, Bool.true_eq_false, Bool.false_eq_true, Bool.not_true, Bool.not_false, Nat.reduceEqDiff, Nat.reduceAdd, Nat.reduceMul, Nat.reduceSub, Nat.reduceLeDiff, Nat.reduceLT, true_and, and_true, reduceCtorEq, Nat.zero_add, Nat.add_zero, Nat.zero_mul, Nat.le_refl, Int.toNat_natCast, Bool.and_self, Bool.true_and, Bool.and_true, if_true, eq_self, forall_const, and_self, implies_true]; try simp, by simp only [FitE, Le, LeL, List.cons_append, List.nil_append]; simp (maxSteps := 2000000) -implicitDefEqProofs only [pL', ↓s_loopi, ↓v_pq, ↓Sy.PRE, Sy.POST, Nat.reduceDiv, Nat.reduceMod, Int.reduceLT, Int.reduceLE, Int.reduceToNat, Int.reduceAdd, decide_true, decide_false, ↓reduceIte, List.map_cons, List.map_nil, List.length_cons, List.length_nil, List.cons_append, List.nil_append, List.getElem?_cons_zero, List.getElem?_cons_succ, List.getElem?_nil, List.take_succ_cons, List.take_zero, List.drop_succ_cons, List.drop_zero, List.all_cons, List.all_nil, List.set_cons_zero, List.set_cons_succ, List.append_nil, Option.map_some, Option.map_none, cond_true, cond_false, Bool.true_eq_false, Bool.false_eq_true, Bool.not_true, Bool.not_false, Nat.reduceEqDiff, Nat.reduceAdd, Nat.reduceMul, Nat.reduceSub, Nat.reduceLeDiff, Nat.reduceLT, true_and, and_true, reduceCtorEq, Nat.zero_add, Nat.add_zero, Nat.zero_mul, Nat.le_refl, Int.toNat_natCast, Bool.and_self, Bool.true_and, Bool.and_true, if_true, eq_self, forall_const, and_self, implies_true]; try simp⟩
    · rintro ⟨x, hx⟩
      by_cases hlt : x < 4
      · have dT := led_at ts x (by omega)
        generalize ts[x] = t at dT
        simp only [tS] at dT
        have i0 : (0 : Int) ≤ (x : Int) := by omega
        have i4 : (x : Int) < 4 := by omega
        have w1 : IntKind.i64.wrap ((x : Int) + 1) = (x : Int) + 1 := wrap_id (by omega) (by omega)
        have f5 : x * 5 + 5 ≤ 20 := by omega
        simp (maxSteps := 2000000) -implicitDefEqProofs only [LL, dT, i0, i4, w1, f5, ↓s_loopi, ↓v_pq, ↓Sy.PRE, Sy.POST, Nat.reduceDiv, Nat.reduceMod, Int.reduceLT, Int.reduceLE, Int.reduceToNat, Int.reduceAdd, decide_true, decide_false, ↓reduceIte, List.map_cons, List.map_nil, List.length_cons, List.length_nil, List.cons_append, List.nil_append, List.getElem?_cons_zero, List.getElem?_cons_succ, List.getElem?_nil, List.take_succ_cons, List.take_zero, List.drop_succ_cons, List.drop_zero, List.all_cons, List.all_nil, List.set_cons_zero, List.set_cons_succ, List.append_nil, Option.map_some, Option.map_none, cond_true, cond_false, Bool.true_eq_false, Bool.false_eq_true, Bool.not_true, Bool.not_false, Nat.reduceEqDiff, Nat.reduceAdd, Nat.reduceMul, Nat.reduceSub, Nat.reduceLeDiff, Nat.reduceLT, true_and, and_true, reduceCtorEq, Nat.zero_add, Nat.add_zero, Nat.zero_mul, Nat.le_refl, Int.toNat_natCast, Bool.and_self, Bool.true_and, Bool.and_true, if_true, eq_self, forall_const, and_self, implies_true]
        split
        · exact h
        · exact ⟨⟨x + 1, by omega⟩, by simp only; omega, [0, 1], by simp, by simp only [FitM, ObLe, LeL, Le, List.cons_append, List.nil_append]; simp (maxSteps := 2000000) -implicitDefEqProofs only [pL', pW', ↓s_loopi, ↓v_pq, ↓Sy.PRE, Sy.POST, Nat.reduceDiv, Nat.reduceMod, Int.reduceLT, Int.reduceLE, Int.reduceToNat, Int.reduceAdd, decide_true, decide_false, ↓reduceIte, List.map_cons, List.map_nil, List.length_cons, List.length_nil, List.cons_append, List.nil_append, List.getElem?_cons_zero, List.getElem?_cons_succ, List.getElem?_nil, List.take_succ_cons, List.take_zero, List.drop_succ_cons, List.drop_zero, List.all_cons, List.all_nil, List.set_cons_zero, List.set_cons_succ, List.append_nil, Option.map_some, Option.map_none, cond_true, cond_false, Bool.true_eq_false, Bool.false_eq_true, Bool.not_true, Bool.not_false, Nat.reduceEqDiff, Nat.reduceAdd, Nat.reduceMul, Nat.reduceSub, Nat.reduceLeDiff, Nat.reduceLT, true_and, and_true, reduceCtorEq, Nat.zero_add, Nat.add_zero, Nat.zero_mul, Nat.le_refl, Int.toNat_natCast, Bool.and_self, Bool.true_and, Bool.and_true, if_true, eq_self, forall_const, and_self, implies_true]; try simp, by simp only [FitE, Le, LeL, List.cons_append, List.nil_append]; simp (maxSteps := 2000000) -implicitDefEqProofs only [pL', ↓s_loopi, ↓v_pq, ↓Sy.PRE, Sy.POST, Nat.reduceDiv, Nat.reduceMod, Int.reduceLT, Int.reduceLE, Int.reduceToNat, Int.reduceAdd, decide_true, decide_false, ↓reduceIte, List.map_cons, List.map_nil, List.length_cons, List.length_nil, List.cons_append, List.nil_append, List.getElem?_cons_zero, List.getElem?_cons_succ, List.getElem?_nil, List.take_succ_cons, List.take_zero, List.drop_succ_cons, List.drop_zero, List.all_cons, List.all_nil, List.set_cons_zero, List.set_cons_succ, List.append_nil, Option.map_some, Option.map_none, cond_true, cond_false, Bool.true_eq_false, Bool.false_eq_true, Bool.not_true, Bool.not_false, Nat.reduceEqDiff, Nat.reduceAdd, Nat.reduceMul, Nat.reduceSub, Nat.reduceLeDiff, Nat.reduceLT, true_and, and_true, reduceCtorEq, Nat.zero_add, Nat.add_zero, Nat.zero_mul, Nat.le_refl, Int.toNat_natCast, Bool.and_self, Bool.true_and, Bool.and_true, if_true, eq_self, forall_const, and_self, implies_true]; try simp⟩
      · have x4 : x = 4 := by omega
        subst x4
        by_cases hr : rightF xs = true
        · generalize hpl : planF ts xs = pl at hP oP
          rcases pl with _ | ⟨s, pl⟩
          · simp (maxSteps := 2000000) -implicitDefEqProofs only [↓c43, ↓c44, ↓c46, ↓c47, ↓c49, ↓c50, LL, LW, tL, tW, dE, dF, eK, eW, hr, hpl, outV_nil, outM_nil, bne_self_eq_false, beq_self_eq_true, ↓s_loopi, ↓v_pq, ↓Sy.PRE, Sy.POST, Nat.reduceDiv, Nat.reduceMod, Int.reduceLT, Int.reduceLE, Int.reduceToNat, Int.reduceAdd, decide_true, decide_false, ↓reduceIte, List.map_cons, List.map_nil, List.length_cons, List.length_nil, List.cons_append, List.nil_append, List.getElem?_cons_zero, List.getElem?_cons_succ, List.getElem?_nil, List.take_succ_cons, List.take_zero, List.drop_succ_cons, List.drop_zero, List.all_cons, List.all_nil, List.set_cons_zero, List.set_cons_succ, List.append_nil, Option.map_some, Option.map_none, cond_true, cond_false, Bool.true_eq_false, Bool.false_eq_true, Bool.not_true, Bool.not_false, Nat.reduceEqDiff, Nat.reduceAdd, Nat.reduceMul, Nat.reduceSub, Nat.reduceLeDiff, Nat.reduceLT, true_and, and_true, reduceCtorEq, Nat.zero_add, Nat.add_zero, Nat.zero_mul, Nat.le_refl, Int.toNat_natCast, Bool.and_self, Bool.true_and, Bool.and_true, if_true, eq_self, forall_const, and_self, implies_true]
            refine TXi_of ?_
            refine TX_unroll g8 1 ?_
            simp (maxSteps := 2000000) -implicitDefEqProofs only [↓s_loopi, ↓v_pq, ↓Sy.PRE, Sy.POST, Nat.reduceDiv, Nat.reduceMod, Int.reduceLT, Int.reduceLE, Int.reduceToNat, Int.reduceAdd, decide_true, decide_false, ↓reduceIte, List.map_cons, List.map_nil, List.length_cons, List.length_nil, List.cons_append, List.nil_append, List.getElem?_cons_zero, List.getElem?_cons_succ, List.getElem?_nil, List.take_succ_cons, List.take_zero, List.drop_succ_cons, List.drop_zero, List.all_cons, List.all_nil, List.set_cons_zero, List.set_cons_succ, List.append_nil, Option.map_some, Option.map_none, cond_true, cond_false, Bool.true_eq_false, Bool.false_eq_true, Bool.not_true, Bool.not_false, Nat.reduceEqDiff, Nat.reduceAdd, Nat.reduceMul, Nat.reduceSub, Nat.reduceLeDiff, Nat.reduceLT, true_and, and_true, reduceCtorEq, Nat.zero_add, Nat.add_zero, Nat.zero_mul, Nat.le_refl, Int.toNat_natCast, Bool.and_self, Bool.true_and, Bool.and_true, if_true, eq_self, forall_const, and_self, implies_true]
            exact h
          · have v1 : ∀ k, outV k (s :: pl) = .row k 0 (s :: pl).length 8 := fun k => rfl
            have m1 : outM (s :: pl) = [⟨true, (s :: pl).flatten⟩] := rfl
            have fl := flat_len hP
            have fa : ∀ x, (h : x < (s :: pl).length) → ((s :: pl).flatten.drop (x * 8)).take 8 = (s :: pl)[x] := fun x h => flat_at x h hP
            have fs : ∀ x, (h : x < (s :: pl).length) → ∃ k t a b, (s :: pl)[x] = spS k t a b := fun x h => oP _ (List.getElem_mem h)
            have pp : ∀ g, LeL g (s :: pl).flatten (s :: pl).flatten := fun g => LeL_plain g (flat_plain hP)
            have hn := hP.1
            have fb : ∀ x, x < (s :: pl).length → ∃ k t a b, ((s :: pl).flatten.drop (x * 8)).take 8 = spS k t a b := fun x h => by rw [fa x h]; exact fs x h
            clear fa fs hP oP
            generalize (s :: pl).flatten = cs at m1 fl fb pp
            generalize (s :: pl).length = n at v1 fl fb hn
            simp (maxSteps := 2000000) -implicitDefEqProofs only [↓c43, ↓c44, ↓c46, ↓c47, ↓c49, ↓c50, LL, LW, tL, tW, dE, dF, eK, eW, hr, hpl, v1, m1, bne_self_eq_false, beq_self_eq_true, ↓s_loopi, ↓v_pq, ↓Sy.PRE, Sy.POST, Nat.reduceDiv, Nat.reduceMod, Int.reduceLT, Int.reduceLE, Int.reduceToNat, Int.reduceAdd, decide_true, decide_false, ↓reduceIte, List.map_cons, List.map_nil, List.length_cons, List.length_nil, List.cons_append, List.nil_append, List.getElem?_cons_zero, List.getElem?_cons_succ, List.getElem?_nil, List.take_succ_cons, List.take_zero, List.drop_succ_cons, List.drop_zero, List.all_cons, List.all_nil, List.set_cons_zero, List.set_cons_succ, List.append_nil, Option.map_some, Option.map_none, cond_true, cond_false, Bool.true_eq_false, Bool.false_eq_true, Bool.not_true, Bool.not_false, Nat.reduceEqDiff, Nat.reduceAdd, Nat.reduceMul, Nat.reduceSub, Nat.reduceLeDiff, Nat.reduceLT, true_and, and_true, reduceCtorEq, Nat.zero_add, Nat.add_zero, Nat.zero_mul, Nat.le_refl, Int.toNat_natCast, Bool.and_self, Bool.true_and, Bool.and_true, if_true, eq_self, forall_const, and_self, implies_true]
            refine TXi_of ?_
            refine TX_loop g8 (X := { x : Nat // x ≤ n }) (fun x => [(9, .row 0 0 n 8), (11, .row 1 0 n 8), (76, .v (.int .i64 (n : Int))), (77, .v (.int .i64 (x.1 : Int)))]) (fun _ => [⟨true, cs⟩, ⟨true, cs⟩]) (fun x => n - x.1) ⟨0, by omega⟩ ?_ ?_
            · exact ⟨[2, 3], by simp, by simp only [FitM, ObLe, List.cons_append, List.nil_append]; simp (maxSteps := 2000000) -implicitDefEqProofs only [pp, ↓s_loopi, ↓v_pq, ↓Sy.PRE, Sy.POST, Nat.reduceDiv, Nat.reduceMod, Int.reduceLT, Int.reduceLE, Int.reduceToNat, Int.reduceAdd, decide_true, decide_false, ↓reduceIte, List.map_cons, List.map_nil, List.length_cons, List.length_nil, List.cons_append, List.nil_append, List.getElem?_cons_zero, List.getElem?_cons_succ, List.getElem?_nil, List.take_succ_cons, List.take_zero, List.drop_succ_cons, List.drop_zero, List.all_cons, List.all_nil, List.set_cons_zero, List.set_cons_succ, List.append_nil, Option.map_some, Option.map_none, cond_true, cond_false, Bool.true_eq_false, Bool.false_eq_true, Bool.not_true, Bool.not_false, Nat.reduceEqDiff, Nat.reduceAdd, Nat.reduceMul, Nat.reduceSub, Nat.reduceLeDiff, Nat.reduceLT, true_and, and_true, reduceCtorEq, Nat.zero_add, Nat.add_zero, Nat.zero_mul, Nat.le_refl, Int.toNat_natCast, Bool.and_self, Bool.true_and, Bool.and_true, if_true, eq_self, forall_const, and_self, implies_true]; try simp, by simp only [FitE, Le, LeL, List.cons_append, List.nil_append]; simp (maxSteps := 2000000) -implicitDefEqProofs only [↓s_loopi, ↓v_pq, ↓Sy.PRE, Sy.POST, Nat.reduceDiv, Nat.reduceMod, Int.reduceLT, Int.reduceLE, Int.reduceToNat, Int.reduceAdd, decide_true, decide_false, ↓reduceIte, List.map_cons, List.map_nil, List.length_cons, List.length_nil, List.cons_append, List.nil_append, List.getElem?_cons_zero, List.getElem?_cons_succ, List.getElem?_nil, List.take_succ_cons, List.take_zero, List.drop_succ_cons, List.drop_zero, List.all_cons, List.all_nil, List.set_cons_zero, List.set_cons_succ, List.append_nil, Option.map_some, Option.map_none, cond_true, cond_false, Bool.true_eq_false, Bool.false_eq_true, Bool.not_true, Bool.not_false, Nat.reduceEqDiff, Nat.reduceAdd, Nat.reduceMul, Nat.reduceSub, Nat.reduceLeDiff, Nat.reduceLT, true_and, and_true, reduceCtorEq, Nat.zero_add, Nat.add_zero, Nat.zero_mul, Nat.le_refl, Int.toNat_natCast, Bool.and_self, Bool.true_and, Bool.and_true, if_true, eq_self, forall_const, and_self, implies_true]; try simp⟩
            · rintro ⟨x, hx⟩
              by_cases hxn : x < n
              · obtain ⟨k1, k2, k3, k4, hc⟩ := fb x hxn
                simp only [spS] at hc
                have i0 : (0 : Int) ≤ (x : Int) := by omega
                have i4 : (x : Int) < (n : Int) := by omega
                have w1 : IntKind.i64.wrap ((x : Int) + 1) = (x : Int) + 1 := wrap_id (by omega) (by omega)
                have f5 : x * 8 + 8 ≤ cs.length := by omega
                simp (maxSteps := 2000000) -implicitDefEqProofs only [hc, i0, i4, w1, f5, beq_self_eq_true, ↓s_loopi, ↓v_pq, ↓Sy.PRE, Sy.POST, Nat.reduceDiv, Nat.reduceMod, Int.reduceLT, Int.reduceLE, Int.reduceToNat, Int.reduceAdd, decide_true, decide_false, ↓reduceIte, List.map_cons, List.map_nil, List.length_cons, List.length_nil, List.cons_append, List.nil_append, List.getElem?_cons_zero, List.getElem?_cons_succ, List.getElem?_nil, List.take_succ_cons, List.take_zero, List.drop_succ_cons, List.drop_zero, List.all_cons, List.all_nil, List.set_cons_zero, List.set_cons_succ, List.append_nil, Option.map_some, Option.map_none, cond_true, cond_false, Bool.true_eq_false, Bool.false_eq_true, Bool.not_true, Bool.not_false, Nat.reduceEqDiff, Nat.reduceAdd, Nat.reduceMul, Nat.reduceSub, Nat.reduceLeDiff, Nat.reduceLT, true_and, and_true, reduceCtorEq, Nat.zero_add, Nat.add_zero, Nat.zero_mul, Nat.le_refl, Int.toNat_natCast, Bool.and_self, Bool.true_and, Bool.and_true, if_true, eq_self, forall_const, and_self, implies_true]
                exact ⟨⟨x + 1, by omega⟩, by simp only; omega, [0, 1], by simp, by simp only [FitM, ObLe, List.cons_append, List.nil_append]; simp (maxSteps := 2000000) -implicitDefEqProofs only [pp, ↓s_loopi, ↓v_pq, ↓Sy.PRE, Sy.POST, Nat.reduceDiv, Nat.reduceMod, Int.reduceLT, Int.reduceLE, Int.reduceToNat, Int.reduceAdd, decide_true, decide_false, ↓reduceIte, List.map_cons, List.map_nil, List.length_cons, List.length_nil, List.cons_append, List.nil_append, List.getElem?_cons_zero, List.getElem?_cons_succ, List.getElem?_nil, List.take_succ_cons, List.take_zero, List.drop_succ_cons, List.drop_zero, List.all_cons, List.all_nil, List.set_cons_zero, List.set_cons_succ, List.append_nil, Option.map_some, Option.map_none, cond_true, cond_false, Bool.true_eq_false, Bool.false_eq_true, Bool.not_true, Bool.not_false, Nat.reduceEqDiff, Nat.reduceAdd, Nat.reduceMul, Nat.reduceSub, Nat.reduceLeDiff, Nat.reduceLT, true_and, and_true, reduceCtorEq, Nat.zero_add, Nat.add_zero, Nat.zero_mul, Nat.le_refl, Int.toNat_natCast, Bool.and_self, Bool.true_and, Bool.and_true, if_true, eq_self, forall_const, and_self, implies_true]; try simp, by simp only [FitE, Le, LeL, List.cons_append, List.nil_append]; simp (maxSteps := 2000000) -implicitDefEqProofs only [↓s_loopi, ↓v_pq, ↓Sy.PRE, Sy.POST, Nat.reduceDiv, Nat.reduceMod, Int.reduceLT, Int.reduceLE, Int.reduceToNat, Int.reduceAdd, decide_true, decide_false, ↓reduceIte, List.map_cons, List.map_nil, List.length_cons, List.length_nil, List.cons_append, List.nil_append, List.getElem?_cons_zero, List.getElem?_cons_succ, List.getElem?_nil, List.take_succ_cons, List.take_zero, List.drop_succ_cons, List.drop_zero, List.all_cons, List.all_nil, List.set_cons_zero, List.set_cons_succ, List.append_nil, Option.map_some, Option.map_none, cond_true, cond_false, Bool.true_eq_false, Bool.false_eq_true, Bool.not_true, Bool.not_false, Nat.reduceEqDiff, Nat.reduceAdd, Nat.reduceMul, Nat.reduceSub, Nat.reduceLeDiff, Nat.reduceLT, true_and, and_true, reduceCtorEq, Nat.zero_add, Nat.add_zero, Nat.zero_mul, Nat.le_refl, Int.toNat_natCast, Bool.and_self, Bool.true_and, Bool.and_true, if_true, eq_self, forall_const, and_self, implies_true]; try simp⟩
              · have xn : x = n := by omega
                subst xn
                have i4 : ¬ (x : Int) < (x : Int) := by omega
                simp (maxSteps := 2000000) -implicitDefEqProofs only [i4, ↓s_loopi, ↓v_pq, ↓Sy.PRE, Sy.POST, Nat.reduceDiv, Nat.reduceMod, Int.reduceLT, Int.reduceLE, Int.reduceToNat, Int.reduceAdd, decide_true, decide_false, ↓reduceIte, List.map_cons, List.map_nil, List.length_cons, List.length_nil, List.cons_append, List.nil_append, List.getElem?_cons_zero, List.getElem?_cons_succ, List.getElem?_nil, List.take_succ_cons, List.take_zero, List.drop_succ_cons, List.drop_zero, List.all_cons, List.all_nil, List.set_cons_zero, List.set_cons_succ, List.append_nil, Option.map_some, Option.map_none, cond_true, cond_false, Bool.true_eq_false, Bool.false_eq_true, Bool.not_true, Bool.not_false, Nat.reduceEqDiff, Nat.reduceAdd, Nat.reduceMul, Nat.reduceSub, Nat.reduceLeDiff, Nat.reduceLT, true_and, and_true, reduceCtorEq, Nat.zero_add, Nat.add_zero, Nat.zero_mul, Nat.le_refl, Int.toNat_natCast, Bool.and_self, Bool.true_and, Bool.and_true, if_true, eq_self, forall_const, and_self, implies_true]
                exact h
        · have hr : rightF xs = false := by simpa using hr
          simp (maxSteps := 2000000) -implicitDefEqProofs only [↓c43, ↓c44, ↓c46, ↓c47, ↓c49, ↓c50, LL, LW, tL, tW, dE, dF, eK, eW, hr, bne_self_eq_false, beq_self_eq_true, ↓s_loopi, ↓v_pq, ↓Sy.PRE, Sy.POST, Nat.reduceDiv, Nat.reduceMod, Int.reduceLT, Int.reduceLE, Int.reduceToNat, Int.reduceAdd, decide_true, decide_false, ↓reduceIte, List.map_cons, List.map_nil, List.length_cons, List.length_nil, List.cons_append, List.nil_append, List.getElem?_cons_zero, List.getElem?_cons_succ, List.getElem?_nil, List.take_succ_cons, List.take_zero, List.drop_succ_cons, List.drop_zero, List.all_cons, List.all_nil, List.set_cons_zero, List.set_cons_succ, List.append_nil, Option.map_some, Option.map_none, cond_true, cond_false, Bool.true_eq_false, Bool.false_eq_true, Bool.not_true, Bool.not_false, Nat.reduceEqDiff, Nat.reduceAdd, Nat.reduceMul, Nat.reduceSub, Nat.reduceLeDiff, Nat.reduceLT, true_and, and_true, reduceCtorEq, Nat.zero_add, Nat.add_zero, Nat.zero_mul, Nat.le_refl, Int.toNat_natCast, Bool.and_self, Bool.true_and, Bool.and_true, if_true, eq_self, forall_const, and_self, implies_true]
          exact h
  · exact h.elim
end Go.Proofs.Ytppndeoiifkkkaa