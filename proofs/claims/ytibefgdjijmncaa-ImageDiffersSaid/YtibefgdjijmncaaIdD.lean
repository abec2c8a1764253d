/- Layer 43 (image), law ImageDiffers. By symbolic walks. -/
import Derived.Test.YtibefgdjijmncaaIdC
import Derived.Test.YtibefgdjijmncaaImA
namespace Go.Proofs.Ytibefgdjijmncaa
open Go.RowKit Sz
set_option linter.unusedVariables false
set_option linter.unusedSimpArgs false
set_option maxHeartbeats 8000000
set_option maxRecDepth 20000
-- almshouse/almshouselaw43.ImageDiffers (2 parameters)
def x5 : XC := (.seq (.tree (.seq ⟨some 2, none, (.box (.tmp 0))⟩
  (.seq ⟨some 3, none, (.box (.tmp 1))⟩
  (.seq ⟨some 4, none, (.ofA (.mv (.cst (.v (.bool false)))))⟩
  .done))))
 (.seq (.seq (.tree (.seq ⟨some 13, none, (.call (.cst (.fn 11 [])) [])⟩
  (.seq ⟨some 14, none, (.ofA (.un .not (.tmp 13)))⟩
  .done)))
 (.cond (.tmp 14)
 (.seq (.tree (.seq ⟨some 4, none, (.ofA (.mv (.cst (.v (.bool false)))))⟩
  .done))
 .ret)
 .skip))
 (.seq (.seq (.tree (.seq ⟨some 15, none, (.ofA (.load (some 5) (.tmp 2)))⟩
  (.seq ⟨some 16, none, (.call (.cst (.fn 12 [])) [(.tmp 15)])⟩
  (.seq ⟨some 17, none, (.ofA (.un .not (.tmp 16)))⟩
  (.seq ⟨some 18, none, (.ofA (.mv (.tmp 17)))⟩
  (.seq ⟨some 19, some (18, false), (.ofA (.load (some 5) (.tmp 3)))⟩
  (.seq ⟨some 20, some (18, false), (.call (.cst (.fn 12 [])) [(.tmp 19)])⟩
  (.seq ⟨some 21, some (18, false), (.ofA (.un .not (.tmp 20)))⟩
  (.seq ⟨some 22, none, (.ofA (.pick (.tmp 18) (.cst (.v (.bool true))) (.tmp 21)))⟩
  .done)))))))))
 (.cond (.tmp 22)
 (.seq (.tree (.seq ⟨some 4, none, (.ofA (.mv (.cst (.v (.bool true)))))⟩
  .done))
 .ret)
 .skip))
 (.seq (.tree (.seq ⟨some 5, none, (.ofA (.mv (.cst (.v (.slice none 0 0)))))⟩
  .done))
 (.seq (.seq (.tree (.seq ⟨some 23, none, (.ofA (.faddr 4 (.tmp 2)))⟩
  (.seq ⟨some 24, none, (.ofA (.load none (.tmp 23)))⟩
  (.seq ⟨some 25, none, (.ofA (.len (.tmp 24)))⟩
  (.seq ⟨some 26, none, (.ofA (.faddr 4 (.tmp 3)))⟩
  (.seq ⟨some 27, none, (.ofA (.load none (.tmp 26)))⟩
  (.seq ⟨some 28, none, (.ofA (.len (.tmp 27)))⟩
  (.seq ⟨some 29, none, (.ofA (.mx true (.tmp 25) [(.tmp 28)]))⟩
  (.seq ⟨some 30, none, (.ofA (.mv (.cst (.v (.int .i64 0)))))⟩
  .done)))))))))
 (.block 0 (.loop (.seq (.tree (.seq ⟨some 31, none, (.ofA (.bin .lss (.tmp 30) (.tmp 29)))⟩
  .done))
 (.seq (.cond (.tmp 31)
 .skip
 (.exit 0))
 (.seq (.block 1 (.seq (.tree (.seq ⟨some 32, none, (.ofA (.mv (.tmp 30)))⟩
  (.seq ⟨some 6, none, (.ofA (.mv (.tmp 32)))⟩
  .done)))
 (.seq (.tree (.seq ⟨some 33, none, (.ofA (.mv (.tmp 6)))⟩
  (.seq ⟨some 34, none, (.ofA (.faddr 4 (.tmp 2)))⟩
  (.seq ⟨some 35, none, (.ofA (.load none (.tmp 34)))⟩
  (.seq ⟨some 36, none, (.ofA (.len (.tmp 35)))⟩
  (.seq ⟨some 37, none, (.ofA (.bin .lss (.tmp 33) (.tmp 36)))⟩
  (.seq ⟨some 38, none, (.ofA (.mv (.tmp 37)))⟩
  (.seq ⟨some 39, some (38, true), (.ofA (.mv (.tmp 6)))⟩
  (.seq ⟨some 40, some (38, true), (.ofA (.faddr 4 (.tmp 3)))⟩
  (.seq ⟨some 41, some (38, true), (.ofA (.load none (.tmp 40)))⟩
  (.seq ⟨some 42, some (38, true), (.ofA (.len (.tmp 41)))⟩
  (.seq ⟨some 43, some (38, true), (.ofA (.bin .lss (.tmp 39) (.tmp 42)))⟩
  (.seq ⟨some 44, none, (.ofA (.pick (.tmp 38) (.tmp 43) (.cst (.v (.bool false)))))⟩
  (.seq ⟨some 7, none, (.ofA (.mv (.tmp 44)))⟩
  .done))))))))))))))
 (.seq (.seq (.tree (.seq ⟨some 45, none, (.ofA (.mv (.tmp 7)))⟩
  .done))
 (.cond (.tmp 45)
 (.seq (.tree (.take ⟨some 46, none, (.ofA (.faddr 4 (.tmp 2)))⟩
  (.take ⟨some 47, none, (.ofA (.load none (.tmp 46)))⟩
  (.take ⟨some 48, none, (.ofA (.mv (.tmp 6)))⟩
  (.take ⟨some 49, none, (.ofA (.isl 3 (.tmp 47) (.tmp 48)))⟩
  (.take ⟨some 50, none, (.ofA (.load (some 3) (.tmp 49)))⟩
  (.take ⟨some 51, none, (.ofA (.faddr 4 (.tmp 3)))⟩
  (.take ⟨some 53, none, (.ofA (.mv (.tmp 6)))⟩
  (.alt [true, true, true] [(⟨some 52, none, (.ofA (.load none (.tmp 51)))⟩,
 (.take ⟨some 54, none, (.ofA (.isl 3 (.tmp 52) (.tmp 53)))⟩
  (.alt [true, true, true] [(⟨some 55, none, (.ofA (.load (some 3) (.tmp 54)))⟩,
 (.alt [true, true] [(⟨some 8, none, (.alloc [(.v (.bool false)), (.v (.int .i64 0)), (.v (.slice none 0 0))])⟩,
 (.alt [true] [(⟨some 9, none, (.alloc [(.v (.bool false)), (.v (.int .i64 0)), (.v (.slice none 0 0))])⟩,
 (.alt [false] [(⟨none, none, (.store 3 (.tmp 8) (.tmp 50))⟩,
 (.alt [false] [(⟨none, none, (.store 3 (.tmp 9) (.tmp 55))⟩,
 .done)]))]))])), (⟨some 9, none, (.alloc [(.v (.bool false)), (.v (.int .i64 0)), (.v (.slice none 0 0))])⟩,
 (.alt [true] [(⟨some 8, none, (.alloc [(.v (.bool false)), (.v (.int .i64 0)), (.v (.slice none 0 0))])⟩,
 (.alt [false] [(⟨none, none, (.store 3 (.tmp 8) (.tmp 50))⟩,
 (.alt [false] [(⟨none, none, (.store 3 (.tmp 9) (.tmp 55))⟩,
 .done)]))]))]))])), (⟨some 8, none, (.alloc [(.v (.bool false)), (.v (.int .i64 0)), (.v (.slice none 0 0))])⟩,
 (.alt [true, true] [(⟨some 55, none, (.ofA (.load (some 3) (.tmp 54)))⟩,
 (.alt [true] [(⟨some 9, none, (.alloc [(.v (.bool false)), (.v (.int .i64 0)), (.v (.slice none 0 0))])⟩,
 (.alt [false] [(⟨none, none, (.store 3 (.tmp 8) (.tmp 50))⟩,
 (.alt [false] [(⟨none, none, (.store 3 (.tmp 9) (.tmp 55))⟩,
 .done)]))]))])), (⟨some 9, none, (.alloc [(.v (.bool false)), (.v (.int .i64 0)), (.v (.slice none 0 0))])⟩,
 (.alt [true, false] [(⟨some 55, none, (.ofA (.load (some 3) (.tmp 54)))⟩,
 (.alt [false] [(⟨none, none, (.store 3 (.tmp 8) (.tmp 50))⟩,
 (.alt [false] [(⟨none, none, (.store 3 (.tmp 9) (.tmp 55))⟩,
 .done)]))])), (⟨none, none, (.store 3 (.tmp 8) (.tmp 50))⟩,
 (.take ⟨some 55, none, (.ofA (.load (some 3) (.tmp 54)))⟩
  (.alt [false] [(⟨none, none, (.store 3 (.tmp 9) (.tmp 55))⟩,
 .done)])))]))])), (⟨some 9, none, (.alloc [(.v (.bool false)), (.v (.int .i64 0)), (.v (.slice none 0 0))])⟩,
 (.alt [true, true] [(⟨some 55, none, (.ofA (.load (some 3) (.tmp 54)))⟩,
 (.alt [true] [(⟨some 8, none, (.alloc [(.v (.bool false)), (.v (.int .i64 0)), (.v (.slice none 0 0))])⟩,
 (.alt [false] [(⟨none, none, (.store 3 (.tmp 8) (.tmp 50))⟩,
 (.alt [false] [(⟨none, none, (.store 3 (.tmp 9) (.tmp 55))⟩,
 .done)]))]))])), (⟨some 8, none, (.alloc [(.v (.bool false)), (.v (.int .i64 0)), (.v (.slice none 0 0))])⟩,
 (.alt [true, false] [(⟨some 55, none, (.ofA (.load (some 3) (.tmp 54)))⟩,
 (.alt [false] [(⟨none, none, (.store 3 (.tmp 8) (.tmp 50))⟩,
 (.alt [false] [(⟨none, none, (.store 3 (.tmp 9) (.tmp 55))⟩,
 .done)]))])), (⟨none, none, (.store 3 (.tmp 8) (.tmp 50))⟩,
 (.take ⟨some 55, none, (.ofA (.load (some 3) (.tmp 54)))⟩
  (.alt [false] [(⟨none, none, (.store 3 (.tmp 9) (.tmp 55))⟩,
 .done)])))]))]))]))), (⟨some 8, none, (.alloc [(.v (.bool false)), (.v (.int .i64 0)), (.v (.slice none 0 0))])⟩,
 (.alt [true, true] [(⟨some 52, none, (.ofA (.load none (.tmp 51)))⟩,
 (.take ⟨some 54, none, (.ofA (.isl 3 (.tmp 52) (.tmp 53)))⟩
  (.alt [true, true] [(⟨some 55, none, (.ofA (.load (some 3) (.tmp 54)))⟩,
 (.alt [true] [(⟨some 9, none, (.alloc [(.v (.bool false)), (.v (.int .i64 0)), (.v (.slice none 0 0))])⟩,
 (.alt [false] [(⟨none, none, (.store 3 (.tmp 8) (.tmp 50))⟩,
 (.alt [false] [(⟨none, none, (.store 3 (.tmp 9) (.tmp 55))⟩,
 .done)]))]))])), (⟨some 9, none, (.alloc [(.v (.bool false)), (.v (.int .i64 0)), (.v (.slice none 0 0))])⟩,
 (.alt [true, false] [(⟨some 55, none, (.ofA (.load (some 3) (.tmp 54)))⟩,
 (.alt [false] [(⟨none, none, (.store 3 (.tmp 8) (.tmp 50))⟩,
 (.alt [false] [(⟨none, none, (.store 3 (.tmp 9) (.tmp 55))⟩,
 .done)]))])), (⟨none, none, (.store 3 (.tmp 8) (.tmp 50))⟩,
 (.take ⟨some 55, none, (.ofA (.load (some 3) (.tmp 54)))⟩
  (.alt [false] [(⟨none, none, (.store 3 (.tmp 9) (.tmp 55))⟩,
 .done)])))]))]))), (⟨some 9, none, (.alloc [(.v (.bool false)), (.v (.int .i64 0)), (.v (.slice none 0 0))])⟩,
 (.alt [true, false] [(⟨some 52, none, (.ofA (.load none (.tmp 51)))⟩,
 (.take ⟨some 54, none, (.ofA (.isl 3 (.tmp 52) (.tmp 53)))⟩
  (.alt [true, false] [(⟨some 55, none, (.ofA (.load (some 3) (.tmp 54)))⟩,
 (.alt [false] [(⟨none, none, (.store 3 (.tmp 8) (.tmp 50))⟩,
 (.alt [false] [(⟨none, none, (.store 3 (.tmp 9) (.tmp 55))⟩,
 .done)]))])), (⟨none, none, (.store 3 (.tmp 8) (.tmp 50))⟩,
 (.take ⟨some 55, none, (.ofA (.load (some 3) (.tmp 54)))⟩
  (.alt [false] [(⟨none, none, (.store 3 (.tmp 9) (.tmp 55))⟩,
 .done)])))]))), (⟨none, none, (.store 3 (.tmp 8) (.tmp 50))⟩,
 (.take ⟨some 52, none, (.ofA (.load none (.tmp 51)))⟩
  (.take ⟨some 54, none, (.ofA (.isl 3 (.tmp 52) (.tmp 53)))⟩
  (.take ⟨some 55, none, (.ofA (.load (some 3) (.tmp 54)))⟩
  (.alt [false] [(⟨none, none, (.store 3 (.tmp 9) (.tmp 55))⟩,
 .done)])))))]))])), (⟨some 9, none, (.alloc [(.v (.bool false)), (.v (.int .i64 0)), (.v (.slice none 0 0))])⟩,
 (.alt [true, true] [(⟨some 52, none, (.ofA (.load none (.tmp 51)))⟩,
 (.take ⟨some 54, none, (.ofA (.isl 3 (.tmp 52) (.tmp 53)))⟩
  (.alt [true, true] [(⟨some 55, none, (.ofA (.load (some 3) (.tmp 54)))⟩,
 (.alt [true] [(⟨some 8, none, (.alloc [(.v (.bool false)), (.v (.int .i64 0)), (.v (.slice none 0 0))])⟩,
 (.alt [false] [(⟨none, none, (.store 3 (.tmp 8) (.tmp 50))⟩,
 (.alt [false] [(⟨none, none, (.store 3 (.tmp 9) (.tmp 55))⟩,
 .done)]))]))])), (⟨some 8, none, (.alloc [(.v (.bool false)), (.v (.int .i64 0)), (.v (.slice none 0 0))])⟩,
 (.alt [true, false] [(⟨some 55, none, (.ofA (.load (some 3) (.tmp 54)))⟩,
 (.alt [false] [(⟨none, none, (.store 3 (.tmp 8) (.tmp 50))⟩,
 (.alt [false] [(⟨none, none, (.store 3 (.tmp 9) (.tmp 55))⟩,
 .done)]))])), (⟨none, none, (.store 3 (.tmp 8) (.tmp 50))⟩,
 (.take ⟨some 55, none, (.ofA (.load (some 3) (.tmp 54)))⟩
  (.alt [false] [(⟨none, none, (.store 3 (.tmp 9) (.tmp 55))⟩,
 .done)])))]))]))), (⟨some 8, none, (.alloc [(.v (.bool false)), (.v (.int .i64 0)), (.v (.slice none 0 0))])⟩,
 (.alt [true, false] [(⟨some 52, none, (.ofA (.load none (.tmp 51)))⟩,
 (.take ⟨some 54, none, (.ofA (.isl 3 (.tmp 52) (.tmp 53)))⟩
  (.alt [true, false] [(⟨some 55, none, (.ofA (.load (some 3) (.tmp 54)))⟩,
 (.alt [false] [(⟨none, none, (.store 3 (.tmp 8) (.tmp 50))⟩,
 (.alt [false] [(⟨none, none, (.store 3 (.tmp 9) (.tmp 55))⟩,
 .done)]))])), (⟨none, none, (.store 3 (.tmp 8) (.tmp 50))⟩,
 (.take ⟨some 55, none, (.ofA (.load (some 3) (.tmp 54)))⟩
  (.alt [false] [(⟨none, none, (.store 3 (.tmp 9) (.tmp 55))⟩,
 .done)])))]))), (⟨none, none, (.store 3 (.tmp 8) (.tmp 50))⟩,
 (.take ⟨some 52, none, (.ofA (.load none (.tmp 51)))⟩
  (.take ⟨some 54, none, (.ofA (.isl 3 (.tmp 52) (.tmp 53)))⟩
  (.take ⟨some 55, none, (.ofA (.load (some 3) (.tmp 54)))⟩
  (.alt [false] [(⟨none, none, (.store 3 (.tmp 9) (.tmp 55))⟩,
 .done)])))))]))]))])))))))))
 (.seq (.tree (.seq ⟨some 56, none, (.ofA (.faddr 0 (.tmp 8)))⟩
  (.seq ⟨some 57, none, (.ofA (.load none (.tmp 56)))⟩
  (.seq ⟨some 58, none, (.ofA (.faddr 0 (.tmp 9)))⟩
  (.seq ⟨some 59, none, (.ofA (.load none (.tmp 58)))⟩
  (.seq ⟨some 60, none, (.ofA (.eqb false (.tmp 57) (.tmp 59)))⟩
  (.seq ⟨some 61, none, (.ofA (.mv (.tmp 60)))⟩
  (.seq ⟨some 62, some (61, true), (.ofA (.faddr 1 (.tmp 8)))⟩
  (.seq ⟨some 63, some (61, true), (.ofA (.load none (.tmp 62)))⟩
  (.seq ⟨some 64, some (61, true), (.ofA (.faddr 1 (.tmp 9)))⟩
  (.seq ⟨some 65, some (61, true), (.ofA (.load none (.tmp 64)))⟩
  (.seq ⟨some 66, some (61, true), (.ofA (.bin .eql (.tmp 63) (.tmp 65)))⟩
  (.seq ⟨some 67, none, (.ofA (.pick (.tmp 61) (.tmp 66) (.cst (.v (.bool false)))))⟩
  (.seq ⟨some 68, none, (.ofA (.mv (.tmp 67)))⟩
  (.seq ⟨some 69, some (68, true), (.ofA (.faddr 2 (.tmp 8)))⟩
  (.seq ⟨some 70, some (68, true), (.ofA (.load none (.tmp 69)))⟩
  (.seq ⟨some 71, some (68, true), (.ofA (.len (.tmp 70)))⟩
  (.seq ⟨some 72, some (68, true), (.ofA (.faddr 2 (.tmp 9)))⟩
  (.seq ⟨some 73, some (68, true), (.ofA (.load none (.tmp 72)))⟩
  (.seq ⟨some 74, some (68, true), (.ofA (.len (.tmp 73)))⟩
  (.seq ⟨some 75, some (68, true), (.ofA (.bin .eql (.tmp 71) (.tmp 74)))⟩
  (.seq ⟨some 76, none, (.ofA (.pick (.tmp 68) (.tmp 75) (.cst (.v (.bool false)))))⟩
  (.seq ⟨some 7, none, (.ofA (.mv (.tmp 76)))⟩
  .done)))))))))))))))))))))))
 (.seq (.tree (.seq ⟨some 77, none, (.ofA (.faddr 2 (.tmp 8)))⟩
  (.seq ⟨some 78, none, (.ofA (.load none (.tmp 77)))⟩
  (.seq ⟨some 79, none, (.ofA (.len (.tmp 78)))⟩
  (.seq ⟨some 80, none, (.ofA (.mv (.cst (.v (.int .i64 0)))))⟩
  .done)))))
 (.block 2 (.loop (.seq (.tree (.seq ⟨some 81, none, (.ofA (.bin .lss (.tmp 80) (.tmp 79)))⟩
  .done))
 (.seq (.cond (.tmp 81)
 .skip
 (.exit 2))
 (.seq (.block 3 (.seq (.tree (.seq ⟨some 82, none, (.ofA (.mv (.tmp 80)))⟩
  (.seq ⟨some 10, none, (.ofA (.mv (.tmp 82)))⟩
  .done)))
 (.tree (.take ⟨some 83, none, (.ofA (.mv (.tmp 7)))⟩
  (.take ⟨some 84, none, (.ofA (.mv (.tmp 83)))⟩
  (.take ⟨some 85, some (84, true), (.ofA (.faddr 2 (.tmp 8)))⟩
  (.take ⟨some 86, some (84, true), (.ofA (.load none (.tmp 85)))⟩
  (.take ⟨some 87, some (84, true), (.ofA (.mv (.tmp 10)))⟩
  (.take ⟨some 88, some (84, true), (.ofA (.isl 3 (.tmp 86) (.tmp 87)))⟩
  (.take ⟨some 89, some (84, true), (.ofA (.load (some 3) (.tmp 88)))⟩
  (.take ⟨some 90, some (84, true), (.ofA (.faddr 2 (.tmp 9)))⟩
  (.take ⟨some 91, some (84, true), (.ofA (.load none (.tmp 90)))⟩
  (.take ⟨some 92, some (84, true), (.ofA (.mv (.tmp 10)))⟩
  (.take ⟨some 93, some (84, true), (.ofA (.isl 3 (.tmp 91) (.tmp 92)))⟩
  (.take ⟨some 94, some (84, true), (.ofA (.load (some 3) (.tmp 93)))⟩
  (.take ⟨some 95, some (84, true), (.ofA (.eqs false [.bool, .str, .str] (.tmp 89) (.tmp 94)))⟩
  (.take ⟨some 96, none, (.ofA (.pick (.tmp 84) (.tmp 95) (.cst (.v (.bool false)))))⟩
  (.take ⟨some 7, none, (.ofA (.mv (.tmp 96)))⟩
  .done))))))))))))))))))
 (.tree (.seq ⟨some 97, none, (.ofA (.bin .add (.tmp 80) (.cst (.v (.int .i64 1)))))⟩
  (.seq ⟨some 80, none, (.ofA (.mv (.tmp 97)))⟩
  .done)))))))))))
 .skip))
 (.seq (.tree (.seq ⟨some 98, none, (.ofA (.mv (.tmp 7)))⟩
  (.seq ⟨some 99, none, (.ofA (.un .not (.tmp 98)))⟩
  .done)))
 (.cond (.tmp 99)
 (.tree (.seq ⟨some 100, none, (.ofA (.mv (.tmp 5)))⟩
  (.seq ⟨some 101, none, (.ofA (.mv (.tmp 6)))⟩
  (.seq ⟨some 102, none, (.buildSl 1 1 [(.v (.int .i64 0))] [(0, 1, (.tmp 101))])⟩
  (.seq ⟨some 103, none, (.app 1 8 (.tmp 100) (.tmp 102))⟩
  (.seq ⟨some 5, none, (.ofA (.mv (.tmp 103)))⟩
  .done))))))
 .skip))))))
 (.tree (.seq ⟨some 104, none, (.ofA (.bin .add (.tmp 30) (.cst (.v (.int .i64 1)))))⟩
  (.seq ⟨some 30, none, (.ofA (.mv (.tmp 104)))⟩
  .done)))))))))
 (.seq (.tree (.seq ⟨some 105, none, (.ofA (.load (some 5) (.tmp 2)))⟩
  (.seq ⟨some 106, none, (.ofA (.load (some 5) (.tmp 3)))⟩
  (.seq ⟨some 107, none, (.call (.cst (.fn 18 [])) [(.tmp 105), (.tmp 106)])⟩
  (.seq ⟨some 11, none, (.ofA (.mv (.tmp 107)))⟩
  .done)))))
 (.seq (.seq (.tree (.seq ⟨some 108, none, (.ofA (.mv (.tmp 11)))⟩
  (.seq ⟨some 109, none, (.ofA (.len (.tmp 108)))⟩
  (.seq ⟨some 110, none, (.ofA (.mv (.tmp 5)))⟩
  (.seq ⟨some 111, none, (.ofA (.len (.tmp 110)))⟩
  (.seq ⟨some 112, none, (.ofA (.bin .neq (.tmp 109) (.tmp 111)))⟩
  .done))))))
 (.cond (.tmp 112)
 (.seq (.tree (.seq ⟨some 4, none, (.ofA (.mv (.cst (.v (.bool false)))))⟩
  .done))
 .ret)
 .skip))
 (.seq (.seq (.tree (.seq ⟨some 113, none, (.ofA (.mv (.tmp 11)))⟩
  (.seq ⟨some 114, none, (.ofA (.len (.tmp 113)))⟩
  (.seq ⟨some 115, none, (.ofA (.mv (.cst (.v (.int .i64 0)))))⟩
  .done))))
 (.block 4 (.loop (.seq (.tree (.seq ⟨some 116, none, (.ofA (.bin .lss (.tmp 115) (.tmp 114)))⟩
  .done))
 (.seq (.cond (.tmp 116)
 .skip
 (.exit 4))
 (.seq (.block 5 (.seq (.tree (.seq ⟨some 117, none, (.ofA (.mv (.tmp 115)))⟩
  (.seq ⟨some 12, none, (.ofA (.mv (.tmp 117)))⟩
  .done)))
 (.seq (.tree (.take ⟨some 118, none, (.ofA (.mv (.tmp 11)))⟩
  (.take ⟨some 119, none, (.ofA (.mv (.tmp 12)))⟩
  (.take ⟨some 120, none, (.ofA (.isl 1 (.tmp 118) (.tmp 119)))⟩
  (.take ⟨some 121, none, (.ofA (.load none (.tmp 120)))⟩
  (.take ⟨some 122, none, (.ofA (.mv (.tmp 5)))⟩
  (.take ⟨some 123, none, (.ofA (.mv (.tmp 12)))⟩
  (.take ⟨some 124, none, (.ofA (.isl 1 (.tmp 122) (.tmp 123)))⟩
  (.take ⟨some 125, none, (.ofA (.load none (.tmp 124)))⟩
  (.take ⟨some 126, none, (.ofA (.bin .neq (.tmp 121) (.tmp 125)))⟩
  .done))))))))))
 (.cond (.tmp 126)
 (.seq (.tree (.seq ⟨some 4, none, (.ofA (.mv (.cst (.v (.bool false)))))⟩
  .done))
 .ret)
 .skip))))
 (.tree (.seq ⟨some 127, none, (.ofA (.bin .add (.tmp 115) (.cst (.v (.int .i64 1)))))⟩
  (.seq ⟨some 115, none, (.ofA (.mv (.tmp 127)))⟩
  .done)))))))))
 (.seq (.tree (.seq ⟨some 128, none, (.ofA (.load (some 5) (.tmp 2)))⟩
  (.seq ⟨some 129, none, (.ofA (.load (some 5) (.tmp 3)))⟩
  (.seq ⟨some 130, none, (.call (.cst (.fn 17 [])) [(.tmp 128), (.tmp 129)])⟩
  (.seq ⟨some 131, none, (.ofA (.mv (.tmp 5)))⟩
  (.seq ⟨some 132, none, (.ofA (.len (.tmp 131)))⟩
  (.seq ⟨some 133, none, (.ofA (.bin .eql (.tmp 132) (.cst (.v (.int .i64 0)))))⟩
  (.seq ⟨some 134, none, (.ofA (.mv (.tmp 133)))⟩
  (.seq ⟨some 135, some (134, true), (.ofA (.faddr 0 (.tmp 2)))⟩
  (.seq ⟨some 136, some (134, true), (.ofA (.load (some 4) (.tmp 135)))⟩
  (.seq ⟨some 137, some (134, true), (.ofA (.faddr 0 (.tmp 3)))⟩
  (.seq ⟨some 138, some (134, true), (.ofA (.load (some 4) (.tmp 137)))⟩
  (.seq ⟨some 139, some (134, true), (.ofA (.eqs false [.int, .int, .int, .int] (.tmp 136) (.tmp 138)))⟩
  (.seq ⟨some 140, none, (.ofA (.pick (.tmp 134) (.tmp 139) (.cst (.v (.bool false)))))⟩
  (.seq ⟨some 141, none, (.ofA (.eqb false (.tmp 130) (.tmp 140)))⟩
  (.seq ⟨some 4, none, (.ofA (.mv (.tmp 141)))⟩
  .done))))))))))))))))
 .ret)))))))))
def r5 : List XR := [.tmp 4]
theorem fn5 : FnX Try.prog 5 [] 142 x5 r5 := ⟨_, Try.func5, by kernel_rfl, by kernel_rfl, by kernel_rfl, by kernel_rfl⟩

def smallB (bs : List Bk) : Prop := bs.length ≤ 140737488355328 ∧ ∀ b ∈ bs, b.pages.length ≤ 140737488355328 ∧ ∀ x ∈ b.pages, x.beside.size ≤ 140737488355328 ∧ x.data.size ≤ 140737488355328
def c5 [Inp] : Trans := fun args m k => ∃ s1 s2 g1 g2 bs1 bs2, args = [s1, s2] ∧ picS m s1 g1 bs1 ∧ picS m s2 g2 bs2 ∧ smallB bs1 ∧ smallB bs2 ∧ k (.v (.bool true)) m
def G5 [Inp] : List CEntry := [⟨11, true, Run.c11⟩, ⟨12, true, c12⟩, ⟨17, true, c17⟩, ⟨18, true, c18⟩]
theorem g5 [Inp] : GOk Try.prog G5 := GOk.cons Run.c11_ok (GOk.cons c12_ok (GOk.cons c17_ok (GOk.cons c18_ok (g0 _))))
theorem oO_ne {L : List Int} (h : L ≠ []) : oO (iL L) = ⟨true, iL L⟩ := by
  unfold oO
  have : (iL L).isEmpty = false := by
    cases L with
    | nil => exact (h rfl).elim
    | cons x L => rfl
  rw [this]; rfl
theorem oV_ne {j z n : Nat} (h : n ≠ 0) : oV j z n = .row j 0 n z := by unfold oV; rw [if_neg h]
/-- The law, behind the asking whether pictures are small. -/
theorem c5_ok [I : Inp] : Contract Try.prog 5 true c5 := by
  refine .readG fn5 (G := fun J => @G5 J) (fun J => @g5 J) _ fun args m k h => ?_
  obtain ⟨s1, s2, g1, g2, bs1, bs2, rfl, h1, h2, hb1, hb2, hk⟩ := h
  refine ⟨by simp, fun J hJ K hK us hus => ?_⟩
  obtain ⟨u, t1, rfl, hk1, u2, t2, rfl, hk2, rfl⟩ := hus
  obtain ⟨p, c, xs, e1, rfl, hin, hx0⟩ := pic_kn hK h1 hk1
  obtain ⟨p', c', ys, e2, rfl, hin', hy0⟩ := pic_kn hK h2 hk2
  rw [List.map_cons, List.map_cons, e1, e2, List.map_nil]
  have P1 : ∀ m', picS m' (.agg [.v (.int .i64 g1.ch), .v (.int .i64 g1.di), .v (.int .i64 g1.bl), .v (.int .i64 g1.pa), .v (.slice p xs.length c)]) g1 (xs.map Bi.b) := fun m' => pic_plain m' hin hx0
  have P2 : ∀ m', picS m' (.agg [.v (.int .i64 g2.ch), .v (.int .i64 g2.di), .v (.int .i64 g2.bl), .v (.int .i64 g2.pa), .v (.slice p' ys.length c')]) g2 (ys.map Bi.b) := fun m' => pic_plain m' hin' hy0
  unfold Ge.sv
  simp (maxSteps := 2000000) -implicitDefEqProofs only [↓x5, ↓r5, ↓G5, ↓Run.c11, ↓c12, Sz.s_alt, Sz.s_alt20, Sz.s_alt2t, Sz.s_alt2f, ↓Sz.s_loopi, ↓Sz.v_pq, ↓Sz.PRE, Sz.POST, Sz.CORE, Nat.reduceDiv, Nat.reduceMod, Int.reduceLT, Int.reduceLE, Int.reduceToNat, Int.reduceAdd, ↓reduceIte, Nat.reduceEqDiff, Nat.reduceAdd, Nat.reduceMul, Nat.reduceSub, Nat.reduceLeDiff, Nat.reduceLT, reduceCtorEq, if_true, eq_self, forall_const, implies_true]
  refine ⟨_, g1, _, rfl, P1 _, hb1.1, hb1.2, fun r1 hr1 => ?_⟩
  cases r1 with
  | false =>
    simp (maxSteps := 2000000) -implicitDefEqProofs only [Sz.s_alt, Sz.s_alt20, Sz.s_alt2t, Sz.s_alt2f, ↓Sz.s_loopi, ↓Sz.v_pq, ↓Sz.PRE, Sz.POST, Sz.CORE, Nat.reduceDiv, Nat.reduceMod, Int.reduceLT, Int.reduceLE, Int.reduceToNat, Int.reduceAdd, ↓reduceIte, Nat.reduceEqDiff, Nat.reduceAdd, Nat.reduceMul, Nat.reduceSub, Nat.reduceLeDiff, Nat.reduceLT, reduceCtorEq, if_true, eq_self, forall_const, implies_true]
    exact hk
  | true =>
  simp (maxSteps := 2000000) -implicitDefEqProofs only [↓G5, ↓c12, Sz.s_alt, Sz.s_alt20, Sz.s_alt2t, Sz.s_alt2f, ↓Sz.s_loopi, ↓Sz.v_pq, ↓Sz.PRE, Sz.POST, Sz.CORE, Nat.reduceDiv, Nat.reduceMod, Int.reduceLT, Int.reduceLE, Int.reduceToNat, Int.reduceAdd, ↓reduceIte, Nat.reduceEqDiff, Nat.reduceAdd, Nat.reduceMul, Nat.reduceSub, Nat.reduceLeDiff, Nat.reduceLT, reduceCtorEq, if_true, eq_self, forall_const, implies_true]
  refine ⟨_, g2, _, rfl, P2 _, hb2.1, hb2.2, fun r2 hr2 => ?_⟩
  cases r2 with
  | false =>
    simp (maxSteps := 2000000) -implicitDefEqProofs only [Sz.s_alt, Sz.s_alt20, Sz.s_alt2t, Sz.s_alt2f, ↓Sz.s_loopi, ↓Sz.v_pq, ↓Sz.PRE, Sz.POST, Sz.CORE, Nat.reduceDiv, Nat.reduceMod, Int.reduceLT, Int.reduceLE, Int.reduceToNat, Int.reduceAdd, ↓reduceIte, Nat.reduceEqDiff, Nat.reduceAdd, Nat.reduceMul, Nat.reduceSub, Nat.reduceLeDiff, Nat.reduceLT, reduceCtorEq, if_true, eq_self, forall_const, implies_true]
    exact hk
  | true =>
  have n1 := hr1 rfl
  have n2 := hr2 rfl
  have hp1 : ∀ x ∈ xs, x.b.pages.length ≤ 140737488355328 := fun x hx => (hb1.2 x.b (List.mem_map.2 ⟨x, hx, rfl⟩)).1
  have hp1' : ∀ b ∈ xs.map Bi.b, b.pages.length ≤ 9223372036854775807 := fun b hb => Nat.le_trans (hb1.2 b hb).1 (by omega)
  clear hr1 hr2 hb1 hb2
  have n1' := n1
  have n2' := n2
  rw [List.length_map] at n1' n2'
  have hitem : ∀ (i : Nat) (x : Bi), xs[i]? = some x → inpL (plusA p (i * 3)) 3 = some x.cs := fun i x hx => inp_item Bi.len hin rfl hx
  have hitem' : ∀ (i : Nat) (x : Bi), ys[i]? = some x → inpL (plusA p' (i * 3)) 3 = some x.cs := fun i x hx => inp_item Bi.len hin' rfl hx
  obtain ⟨N, hN⟩ : ∃ N, N = max xs.length ys.length := ⟨_, rfl⟩
  have hdl : difL (xs.map Bi.b) (ys.map Bi.b) = difN (xs.map Bi.b) (ys.map Bi.b) N := by unfold difL; rw [List.length_map, List.length_map, hN]
  obtain ⟨A, hA⟩ : ∃ A, A = xs.map Bi.b := ⟨_, rfl⟩
  obtain ⟨B, hB⟩ : ∃ B, B = ys.map Bi.b := ⟨_, rfl⟩
  have hmx : (if (xs.length : Int) < (ys.length : Int) then ((ys.length : Nat) : Int) else ((xs.length : Nat) : Int)) = (N : Int) := by split <;> omega
  rw [← hA, ← hB] at hdl
  simp (maxSteps := 2000000) -implicitDefEqProofs only [hmx, Sz.s_alt, Sz.s_alt20, Sz.s_alt2t, Sz.s_alt2f, ↓Sz.s_loopi, ↓Sz.v_pq, ↓Sz.PRE, Sz.POST, Sz.CORE, Nat.reduceDiv, Nat.reduceMod, Int.reduceLT, Int.reduceLE, Int.reduceToNat, Int.reduceAdd, ↓reduceIte, Nat.reduceEqDiff, Nat.reduceAdd, Nat.reduceMul, Nat.reduceSub, Nat.reduceLeDiff, Nat.reduceLT, reduceCtorEq, if_true, eq_self, forall_const, implies_true]
  refine TXi_of (TX_count (@g5 J) N (fun x => [(2, .ptr 0 0), (3, .ptr 1 0), (5, oV 2 1 (difN A B x).length), (29, .v (.int .i64 (N : Int))), (30, .v (.int .i64 (x : Int)))]) (fun x => [⟨true, [.v (.int .i64 g1.ch), .v (.int .i64 g1.di), .v (.int .i64 g1.bl), .v (.int .i64 g1.pa), .v (.slice p xs.length c)]⟩, ⟨true, [.v (.int .i64 g2.ch), .v (.int .i64 g2.di), .v (.int .i64 g2.bl), .v (.int .i64 g2.pa), .v (.slice p' ys.length c')]⟩, oO (iL (difN A B x))]) (fun x => True) trivial ?_ ?_ ?_)
  · have e0 : difN A B 0 = [] := rfl
    rw [e0]
    exact ⟨[0, 1, 0], by simp [Sz.NdL, Sz.NdA, Sz.oO_cells, Sz.oO_own, Sz.iL_nil], by simp only [FitM, ObLe, LeL, Le, List.cons_append, List.nil_append] <;> (try (simp (maxSteps := 2000000) -implicitDefEqProofs only [extO, extO2, extLe_no, or_true, Sz.o_sl, Sz.o_grows, Sz.o_kill, Sz.o_len, Sz.o_cap, Sz.o_isl, Sz.o_le, Sz.o_cells, Sz.o_one, Sz.oOk_c, Sz.oOk_o, Sz.oO_cells, Sz.oO_own, Sz.oV_s, Sz.oV_0, Sz.oO_nil, Sz.oO_iL, Sz.iL_nil, Sz.iL_snoc, List.length_append, Sz.iL_fold, Sz.iL_over, Sz.iL_all, Sz.iL_get, Sz.iL_len, Sz.iL_take, Sz.iL_drop, Sz.iL_one, Sz.iL_plain, Sz.iL_le, List.length_set, List.length_nil, Sz.s_alt, Sz.s_alt20, Sz.s_alt2t, Sz.s_alt2f, ↓Sz.s_loopi, ↓Sz.v_pq, ↓Sz.PRE, Sz.POST, Sz.CORE, Nat.reduceDiv, Nat.reduceMod, Int.reduceLT, Int.reduceLE, Int.reduceToNat, Int.reduceAdd, ↓reduceIte, Nat.reduceEqDiff, Nat.reduceAdd, Nat.reduceMul, Nat.reduceSub, Nat.reduceLeDiff, Nat.reduceLT, reduceCtorEq, if_true, eq_self, forall_const, implies_true])) <;> (try simp), by simp only [FitE, Le, LeL, List.cons_append, List.nil_append] <;> (try (simp (maxSteps := 2000000) -implicitDefEqProofs only [extO, extO2, extLe_no, or_true, Sz.o_sl, Sz.o_grows, Sz.o_kill, Sz.o_len, Sz.o_cap, Sz.o_isl, Sz.o_le, Sz.o_cells, Sz.o_one, Sz.oOk_c, Sz.oOk_o, Sz.oO_cells, Sz.oO_own, Sz.oV_s, Sz.oV_0, Sz.oO_nil, Sz.oO_iL, Sz.iL_nil, Sz.iL_snoc, List.length_append, Sz.iL_fold, Sz.iL_over, Sz.iL_all, Sz.iL_get, Sz.iL_len, Sz.iL_take, Sz.iL_drop, Sz.iL_one, Sz.iL_plain, Sz.iL_le, List.length_set, List.length_nil, Sz.s_alt, Sz.s_alt20, Sz.s_alt2t, Sz.s_alt2f, ↓Sz.s_loopi, ↓Sz.v_pq, ↓Sz.PRE, Sz.POST, Sz.CORE, Nat.reduceDiv, Nat.reduceMod, Int.reduceLT, Int.reduceLE, Int.reduceToNat, Int.reduceAdd, ↓reduceIte, Nat.reduceEqDiff, Nat.reduceAdd, Nat.reduceMul, Nat.reduceSub, Nat.reduceLeDiff, Nat.reduceLT, reduceCtorEq, if_true, eq_self, forall_const, implies_true])) <;> (try simp only [Sz.Le, Sz.LeL, List.getElem?_cons_zero, List.getElem?_cons_succ]) <;> (try simp), keep0 hJ⟩
  · intro x hx _
    have i0 : (0 : Int) ≤ (x : Int) := by omega
    have i1 : (x : Int) < (N : Int) := by omega
    have w1 : IntKind.i64.wrap ((x : Int) + 1) = (x : Int) + 1 := Sz.w_64 (by omega) (by omega)
    have hd := difN_succ A B x
    have hlen := difN_len A B x
    have hxN : x < 1000000 := by omega
    have out : difF A B x = true → difN A B (x + 1) = difN A B x ++ [(x : Int)] := fun h => by rw [hd, if_pos h]
    by_cases ha : x < xs.length
    · by_cases hb : x < ys.length
      · obtain ⟨a, ha'⟩ : ∃ a, xs[x]? = some a := ⟨_, List.getElem?_eq_getElem ha⟩
        obtain ⟨b, hb'⟩ : ∃ b, ys[x]? = some b := ⟨_, List.getElem?_eq_getElem hb⟩
        have f : inpL (plusA p (x * 3)) 3 = some [.bool a.b.bad, .int .i64 a.b.er, .slice a.a a.b.pages.length a.c] := hitem x a ha'
        have f' : inpL (plusA p' (x * 3)) 3 = some [.bool b.b.bad, .int .i64 b.b.er, .slice b.a b.b.pages.length b.c] := hitem' x b hb'
        have hp : p.isSome = true := inpL_isSome hin (by omega)
        have hp' : p'.isSome = true := inpL_isSome hin' (by omega)
        have j3 : (x : Int) < (xs.length : Int) := by omega
        have j4 : (x : Int) < (ys.length : Int) := by omega
        have hF : difF A B x = !eqB a.b b.b := by rw [hA, hB]; simp [difF, List.getElem?_map, ha', hb']
        rw [hF] at hd out
        generalize difN A B x = L at hd hlen out ⊢
        have hpa1 := hp1 a (List.mem_of_getElem? ha')
        cases q1 : (a.b.bad == b.b.bad) with
        | false =>
          simp (maxSteps := 2000000) -implicitDefEqProofs only [i0, i1, j3, j4, f, f', hp, hp', w1, q1, Sz.s_alt, Sz.s_alt20, Sz.s_alt2t, Sz.s_alt2f, ↓Sz.s_loopi, ↓Sz.v_pq, ↓Sz.PRE, Sz.POST, Sz.CORE, Nat.reduceDiv, Nat.reduceMod, Int.reduceLT, Int.reduceLE, Int.reduceToNat, Int.reduceAdd, ↓reduceIte, Nat.reduceEqDiff, Nat.reduceAdd, Nat.reduceMul, Nat.reduceSub, Nat.reduceLeDiff, Nat.reduceLT, reduceCtorEq, if_true, eq_self, forall_const, implies_true]
          refine TXi_key (C := fun e m => Fit e m [(2, .ptr 0 0), (3, .ptr 1 0), (5, oV 2 1 L.length), (6, .v (.int .i64 (x : Int))), (7, .v (.bool false)), (29, .v (.int .i64 (N : Int))), (30, .v (.int .i64 (x : Int))), (79, .v (.int .i64 (a.b.pages.length : Int))), (80, .v (.int .i64 (0 : Int)))] [⟨true, [.v (.int .i64 g1.ch), .v (.int .i64 g1.di), .v (.int .i64 g1.bl), .v (.int .i64 g1.pa), .v (.slice p xs.length c)]⟩, ⟨true, [.v (.int .i64 g2.ch), .v (.int .i64 g2.di), .v (.int .i64 g2.bl), .v (.int .i64 g2.pa), .v (.slice p' ys.length c')]⟩, oO (iL L)]) ⟨[0, 1, 2], by simp [Sz.NdL, Sz.NdA, Sz.oO_cells, Sz.oO_own, Sz.iL_nil], by simp only [FitM, ObLe, LeL, Le, List.cons_append, List.nil_append] <;> (try (simp (maxSteps := 2000000) -implicitDefEqProofs only [extO, extO2, extLe_no, or_true, Sz.o_sl, Sz.o_grows, Sz.o_kill, Sz.o_len, Sz.o_cap, Sz.o_isl, Sz.o_le, Sz.o_cells, Sz.o_one, Sz.oOk_c, Sz.oOk_o, Sz.oO_cells, Sz.oO_own, Sz.oV_s, Sz.oV_0, Sz.oO_nil, Sz.oO_iL, Sz.iL_nil, Sz.iL_snoc, List.length_append, Sz.iL_fold, Sz.iL_over, Sz.iL_all, Sz.iL_get, Sz.iL_len, Sz.iL_take, Sz.iL_drop, Sz.iL_one, Sz.iL_plain, Sz.iL_le, List.length_set, Sz.s_alt, Sz.s_alt20, Sz.s_alt2t, Sz.s_alt2f, ↓Sz.s_loopi, ↓Sz.v_pq, ↓Sz.PRE, Sz.POST, Sz.CORE, Nat.reduceDiv, Nat.reduceMod, Int.reduceLT, Int.reduceLE, Int.reduceToNat, Int.reduceAdd, ↓reduceIte, Nat.reduceEqDiff, Nat.reduceAdd, Nat.reduceMul, Nat.reduceSub, Nat.reduceLeDiff, Nat.reduceLT, reduceCtorEq, if_true, eq_self, forall_const, implies_true])) <;> (try simp), by simp only [FitE, Le, LeL, List.cons_append, List.nil_append] <;> (try (simp (maxSteps := 2000000) -implicitDefEqProofs only [extO, extO2, extLe_no, or_true, Sz.o_sl, Sz.o_grows, Sz.o_kill, Sz.o_len, Sz.o_cap, Sz.o_isl, Sz.o_le, Sz.o_cells, Sz.o_one, Sz.oOk_c, Sz.oOk_o, Sz.oO_cells, Sz.oO_own, Sz.oV_s, Sz.oV_0, Sz.oO_nil, Sz.oO_iL, Sz.iL_nil, Sz.iL_snoc, List.length_append, Sz.iL_fold, Sz.iL_over, Sz.iL_all, Sz.iL_get, Sz.iL_len, Sz.iL_take, Sz.iL_drop, Sz.iL_one, Sz.iL_plain, Sz.iL_le, List.length_set, Sz.s_alt, Sz.s_alt20, Sz.s_alt2t, Sz.s_alt2f, ↓Sz.s_loopi, ↓Sz.v_pq, ↓Sz.PRE, Sz.POST, Sz.CORE, Nat.reduceDiv, Nat.reduceMod, Int.reduceLT, Int.reduceLE, Int.reduceToNat, Int.reduceAdd, ↓reduceIte, Nat.reduceEqDiff, Nat.reduceAdd, Nat.reduceMul, Nat.reduceSub, Nat.reduceLeDiff, Nat.reduceLT, reduceCtorEq, if_true, eq_self, forall_const, implies_true])) <;> (try simp only [Sz.Le, Sz.LeL, List.getElem?_cons_zero, List.getElem?_cons_succ]) <;> (try simp), keep0 hJ⟩ (fun key => key _ _ ⟨[0, 1, 2], by simp [Sz.NdL, Sz.NdA, Sz.oO_cells, Sz.oO_own, Sz.iL_nil], by simp only [FitM, ObLe, LeL, Le, List.cons_append, List.nil_append] <;> (try (simp (maxSteps := 2000000) -implicitDefEqProofs only [extO, extO2, extLe_no, or_true, Sz.o_sl, Sz.o_grows, Sz.o_kill, Sz.o_len, Sz.o_cap, Sz.o_isl, Sz.o_le, Sz.o_cells, Sz.o_one, Sz.oOk_c, Sz.oOk_o, Sz.oO_cells, Sz.oO_own, Sz.oV_s, Sz.oV_0, Sz.oO_nil, Sz.oO_iL, Sz.iL_nil, Sz.iL_snoc, List.length_append, Sz.iL_fold, Sz.iL_over, Sz.iL_all, Sz.iL_get, Sz.iL_len, Sz.iL_take, Sz.iL_drop, Sz.iL_one, Sz.iL_plain, Sz.iL_le, List.length_set, Sz.s_alt, Sz.s_alt20, Sz.s_alt2t, Sz.s_alt2f, ↓Sz.s_loopi, ↓Sz.v_pq, ↓Sz.PRE, Sz.POST, Sz.CORE, Nat.reduceDiv, Nat.reduceMod, Int.reduceLT, Int.reduceLE, Int.reduceToNat, Int.reduceAdd, ↓reduceIte, Nat.reduceEqDiff, Nat.reduceAdd, Nat.reduceMul, Nat.reduceSub, Nat.reduceLeDiff, Nat.reduceLT, reduceCtorEq, if_true, eq_self, forall_const, implies_true])) <;> (try simp), by simp only [FitE, Le, LeL, List.cons_append, List.nil_append] <;> (try (simp (maxSteps := 2000000) -implicitDefEqProofs only [extO, extO2, extLe_no, or_true, Sz.o_sl, Sz.o_grows, Sz.o_kill, Sz.o_len, Sz.o_cap, Sz.o_isl, Sz.o_le, Sz.o_cells, Sz.o_one, Sz.oOk_c, Sz.oOk_o, Sz.oO_cells, Sz.oO_own, Sz.oV_s, Sz.oV_0, Sz.oO_nil, Sz.oO_iL, Sz.iL_nil, Sz.iL_snoc, List.length_append, Sz.iL_fold, Sz.iL_over, Sz.iL_all, Sz.iL_get, Sz.iL_len, Sz.iL_take, Sz.iL_drop, Sz.iL_one, Sz.iL_plain, Sz.iL_le, List.length_set, Sz.s_alt, Sz.s_alt20, Sz.s_alt2t, Sz.s_alt2f, ↓Sz.s_loopi, ↓Sz.v_pq, ↓Sz.PRE, Sz.POST, Sz.CORE, Nat.reduceDiv, Nat.reduceMod, Int.reduceLT, Int.reduceLE, Int.reduceToNat, Int.reduceAdd, ↓reduceIte, Nat.reduceEqDiff, Nat.reduceAdd, Nat.reduceMul, Nat.reduceSub, Nat.reduceLeDiff, Nat.reduceLT, reduceCtorEq, if_true, eq_self, forall_const, implies_true])) <;> (try simp only [Sz.Le, Sz.LeL, List.getElem?_cons_zero, List.getElem?_cons_succ]) <;> (try simp), keep0 hJ⟩) fun e m hfit => ?_
          refine TXi_of (TX_count (@g5 J) a.b.pages.length (fun k => [(2, .ptr 0 0), (3, .ptr 1 0), (5, oV 2 1 L.length), (6, .v (.int .i64 (x : Int))), (7, .v (.bool false)), (29, .v (.int .i64 (N : Int))), (30, .v (.int .i64 (x : Int))), (79, .v (.int .i64 (a.b.pages.length : Int))), (80, .v (.int .i64 (k : Int)))]) (fun k => [⟨true, [.v (.int .i64 g1.ch), .v (.int .i64 g1.di), .v (.int .i64 g1.bl), .v (.int .i64 g1.pa), .v (.slice p xs.length c)]⟩, ⟨true, [.v (.int .i64 g2.ch), .v (.int .i64 g2.di), .v (.int .i64 g2.bl), .v (.int .i64 g2.pa), .v (.slice p' ys.length c')]⟩, oO (iL L)]) (fun k => True) trivial hfit ?_ ?_)
          · intro k hk2 _
            have k0 : (0 : Int) ≤ (k : Int) := by omega
            have k1 : (k : Int) < (a.b.pages.length : Int) := by omega
            have w2 : IntKind.i64.wrap ((k : Int) + 1) = (k : Int) + 1 := Sz.w_64 (by omega) (by omega)
            simp (maxSteps := 2000000) -implicitDefEqProofs only [k0, k1, w2, Bool.false_eq_true, Sz.s_alt, Sz.s_alt20, Sz.s_alt2t, Sz.s_alt2f, ↓Sz.s_loopi, ↓Sz.v_pq, ↓Sz.PRE, Sz.POST, Sz.CORE, Nat.reduceDiv, Nat.reduceMod, Int.reduceLT, Int.reduceLE, Int.reduceToNat, Int.reduceAdd, ↓reduceIte, Nat.reduceEqDiff, Nat.reduceAdd, Nat.reduceMul, Nat.reduceSub, Nat.reduceLeDiff, Nat.reduceLT, reduceCtorEq, if_true, eq_self, forall_const, implies_true]
            exact ⟨[0, 1, 2], by simp [Sz.NdL, Sz.NdA, Sz.oO_cells, Sz.oO_own, Sz.iL_nil], by simp only [FitM, ObLe, LeL, Le, List.cons_append, List.nil_append] <;> (try (simp (maxSteps := 2000000) -implicitDefEqProofs only [extO, extO2, extLe_no, or_true, Sz.o_sl, Sz.o_grows, Sz.o_kill, Sz.o_len, Sz.o_cap, Sz.o_isl, Sz.o_le, Sz.o_cells, Sz.o_one, Sz.oOk_c, Sz.oOk_o, Sz.oO_cells, Sz.oO_own, Sz.oV_s, Sz.oV_0, Sz.oO_nil, Sz.oO_iL, Sz.iL_nil, Sz.iL_snoc, List.length_append, Sz.iL_fold, Sz.iL_over, Sz.iL_all, Sz.iL_get, Sz.iL_len, Sz.iL_take, Sz.iL_drop, Sz.iL_one, Sz.iL_plain, Sz.iL_le, List.length_set, Sz.s_alt, Sz.s_alt20, Sz.s_alt2t, Sz.s_alt2f, ↓Sz.s_loopi, ↓Sz.v_pq, ↓Sz.PRE, Sz.POST, Sz.CORE, Nat.reduceDiv, Nat.reduceMod, Int.reduceLT, Int.reduceLE, Int.reduceToNat, Int.reduceAdd, ↓reduceIte, Nat.reduceEqDiff, Nat.reduceAdd, Nat.reduceMul, Nat.reduceSub, Nat.reduceLeDiff, Nat.reduceLT, reduceCtorEq, if_true, eq_self, forall_const, implies_true])) <;> (try simp), by simp only [FitE, Le, LeL, List.cons_append, List.nil_append] <;> (try (simp (maxSteps := 2000000) -implicitDefEqProofs only [extO, extO2, extLe_no, or_true, Sz.o_sl, Sz.o_grows, Sz.o_kill, Sz.o_len, Sz.o_cap, Sz.o_isl, Sz.o_le, Sz.o_cells, Sz.o_one, Sz.oOk_c, Sz.oOk_o, Sz.oO_cells, Sz.oO_own, Sz.oV_s, Sz.oV_0, Sz.oO_nil, Sz.oO_iL, Sz.iL_nil, Sz.iL_snoc, List.length_append, Sz.iL_fold, Sz.iL_over, Sz.iL_all, Sz.iL_get, Sz.iL_len, Sz.iL_take, Sz.iL_drop, Sz.iL_one, Sz.iL_plain, Sz.iL_le, List.length_set, Sz.s_alt, Sz.s_alt20, Sz.s_alt2t, Sz.s_alt2f, ↓Sz.s_loopi, ↓Sz.v_pq, ↓Sz.PRE, Sz.POST, Sz.CORE, Nat.reduceDiv, Nat.reduceMod, Int.reduceLT, Int.reduceLE, Int.reduceToNat, Int.reduceAdd, ↓reduceIte, Nat.reduceEqDiff, Nat.reduceAdd, Nat.reduceMul, Nat.reduceSub, Nat.reduceLeDiff, Nat.reduceLT, reduceCtorEq, if_true, eq_self, forall_const, implies_true])) <;> (try simp only [Sz.Le, Sz.LeL, List.getElem?_cons_zero, List.getElem?_cons_succ]) <;> (try simp), keep0 hJ⟩
          · intro _
            have k1 : ¬ (a.b.pages.length : Int) < (a.b.pages.length : Int) := by omega
            rw [out (by simp [eqB, q1])]
            simp (maxSteps := 2000000) -implicitDefEqProofs only [k1, w1, Sz.o_sl, Sz.o_grows, Sz.o_kill, Sz.o_len, Sz.o_cap, Sz.o_isl, Sz.o_le, Sz.o_cells, Sz.o_one, Sz.oOk_c, Sz.oOk_o, Sz.oO_cells, Sz.oO_own, Sz.oV_s, Sz.oV_0, Sz.oO_nil, Sz.oO_iL, Sz.iL_nil, Sz.iL_snoc, List.length_append, Sz.iL_fold, Sz.iL_over, Sz.iL_all, Sz.iL_get, Sz.iL_len, Sz.iL_take, Sz.iL_drop, Sz.iL_one, Sz.iL_plain, Sz.iL_le, List.length_set, Bool.not_false, Sz.s_alt, Sz.s_alt20, Sz.s_alt2t, Sz.s_alt2f, ↓Sz.s_loopi, ↓Sz.v_pq, ↓Sz.PRE, Sz.POST, Sz.CORE, Nat.reduceDiv, Nat.reduceMod, Int.reduceLT, Int.reduceLE, Int.reduceToNat, Int.reduceAdd, ↓reduceIte, Nat.reduceEqDiff, Nat.reduceAdd, Nat.reduceMul, Nat.reduceSub, Nat.reduceLeDiff, Nat.reduceLT, reduceCtorEq, if_true, eq_self, forall_const, implies_true]
            exact ⟨⟨by unfold maxLen; omega, by omega⟩, ⟨[0, 1, 4], by simp [Sz.NdL, Sz.NdA, Sz.oO_cells, Sz.oO_own, Sz.iL_nil], by simp only [FitM, ObLe, LeL, Le, List.cons_append, List.nil_append] <;> (try (simp (maxSteps := 2000000) -implicitDefEqProofs only [extO, extO2, extLe_no, or_true, Sz.o_sl, Sz.o_grows, Sz.o_kill, Sz.o_len, Sz.o_cap, Sz.o_isl, Sz.o_le, Sz.o_cells, Sz.o_one, Sz.oOk_c, Sz.oOk_o, Sz.oO_cells, Sz.oO_own, Sz.oV_s, Sz.oV_0, Sz.oO_nil, Sz.oO_iL, Sz.iL_nil, Sz.iL_snoc, List.length_append, Sz.iL_fold, Sz.iL_over, Sz.iL_all, Sz.iL_get, Sz.iL_len, Sz.iL_take, Sz.iL_drop, Sz.iL_one, Sz.iL_plain, Sz.iL_le, List.length_set, List.length_cons, List.length_nil, Sz.s_alt, Sz.s_alt20, Sz.s_alt2t, Sz.s_alt2f, ↓Sz.s_loopi, ↓Sz.v_pq, ↓Sz.PRE, Sz.POST, Sz.CORE, Nat.reduceDiv, Nat.reduceMod, Int.reduceLT, Int.reduceLE, Int.reduceToNat, Int.reduceAdd, ↓reduceIte, Nat.reduceEqDiff, Nat.reduceAdd, Nat.reduceMul, Nat.reduceSub, Nat.reduceLeDiff, Nat.reduceLT, reduceCtorEq, if_true, eq_self, forall_const, implies_true])) <;> (try simp), by simp only [FitE, Le, LeL, List.cons_append, List.nil_append] <;> (try (simp (maxSteps := 2000000) -implicitDefEqProofs only [extO, extO2, extLe_no, or_true, Sz.o_sl, Sz.o_grows, Sz.o_kill, Sz.o_len, Sz.o_cap, Sz.o_isl, Sz.o_le, Sz.o_cells, Sz.o_one, Sz.oOk_c, Sz.oOk_o, Sz.oO_cells, Sz.oO_own, Sz.oV_s, Sz.oV_0, Sz.oO_nil, Sz.oO_iL, Sz.iL_nil, Sz.iL_snoc, List.length_append, Sz.iL_fold, Sz.iL_over, Sz.iL_all, Sz.iL_get, Sz.iL_len, Sz.iL_take, Sz.iL_drop, Sz.iL_one, Sz.iL_plain, Sz.iL_le, List.length_set, List.length_cons, List.length_nil, Sz.s_alt, Sz.s_alt20, Sz.s_alt2t, Sz.s_alt2f, ↓Sz.s_loopi, ↓Sz.v_pq, ↓Sz.PRE, Sz.POST, Sz.CORE, Nat.reduceDiv, Nat.reduceMod, Int.reduceLT, Int.reduceLE, Int.reduceToNat, Int.reduceAdd, ↓reduceIte, Nat.reduceEqDiff, Nat.reduceAdd, Nat.reduceMul, Nat.reduceSub, Nat.reduceLeDiff, Nat.reduceLT, reduceCtorEq, if_true, eq_self, forall_const, implies_true])) <;> (try simp only [Sz.Le, Sz.LeL, List.getElem?_cons_zero, List.getElem?_cons_succ]) <;> (try simp), keep0 hJ⟩⟩
        | true =>
          cases q2 : (a.b.er == b.b.er) with
          | false =>
            simp (maxSteps := 2000000) -implicitDefEqProofs only [i0, i1, j3, j4, f, f', hp, hp', w1, q1, q2, Sz.s_alt, Sz.s_alt20, Sz.s_alt2t, Sz.s_alt2f, ↓Sz.s_loopi, ↓Sz.v_pq, ↓Sz.PRE, Sz.POST, Sz.CORE, Nat.reduceDiv, Nat.reduceMod, Int.reduceLT, Int.reduceLE, Int.reduceToNat, Int.reduceAdd, ↓reduceIte, Nat.reduceEqDiff, Nat.reduceAdd, Nat.reduceMul, Nat.reduceSub, Nat.reduceLeDiff, Nat.reduceLT, reduceCtorEq, if_true, eq_self, forall_const, implies_true]
            refine TXi_key (C := fun e m => Fit e m [(2, .ptr 0 0), (3, .ptr 1 0), (5, oV 2 1 L.length), (6, .v (.int .i64 (x : Int))), (7, .v (.bool false)), (29, .v (.int .i64 (N : Int))), (30, .v (.int .i64 (x : Int))), (79, .v (.int .i64 (a.b.pages.length : Int))), (80, .v (.int .i64 (0 : Int)))] [⟨true, [.v (.int .i64 g1.ch), .v (.int .i64 g1.di), .v (.int .i64 g1.bl), .v (.int .i64 g1.pa), .v (.slice p xs.length c)]⟩, ⟨true, [.v (.int .i64 g2.ch), .v (.int .i64 g2.di), .v (.int .i64 g2.bl), .v (.int .i64 g2.pa), .v (.slice p' ys.length c')]⟩, oO (iL L)]) ⟨[0, 1, 2], by simp [Sz.NdL, Sz.NdA, Sz.oO_cells, Sz.oO_own, Sz.iL_nil], by simp only [FitM, ObLe, LeL, Le, List.cons_append, List.nil_append] <;> (try (simp (maxSteps := 2000000) -implicitDefEqProofs only [extO, extO2, extLe_no, or_true, Sz.o_sl, Sz.o_grows, Sz.o_kill, Sz.o_len, Sz.o_cap, Sz.o_isl, Sz.o_le, Sz.o_cells, Sz.o_one, Sz.oOk_c, Sz.oOk_o, Sz.oO_cells, Sz.oO_own, Sz.oV_s, Sz.oV_0, Sz.oO_nil, Sz.oO_iL, Sz.iL_nil, Sz.iL_snoc, List.length_append, Sz.iL_fold, Sz.iL_over, Sz.iL_all, Sz.iL_get, Sz.iL_len, Sz.iL_take, Sz.iL_drop, Sz.iL_one, Sz.iL_plain, Sz.iL_le, List.length_set, Sz.s_alt, Sz.s_alt20, Sz.s_alt2t, Sz.s_alt2f, ↓Sz.s_loopi, ↓Sz.v_pq, ↓Sz.PRE, Sz.POST, Sz.CORE, Nat.reduceDiv, Nat.reduceMod, Int.reduceLT, Int.reduceLE, Int.reduceToNat, Int.reduceAdd, ↓reduceIte, Nat.reduceEqDiff, Nat.reduceAdd, Nat.reduceMul, Nat.reduceSub, Nat.reduceLeDiff, Nat.reduceLT, reduceCtorEq, if_true, eq_self, forall_const, implies_true])) <;> (try simp), by simp only [FitE, Le, LeL, List.cons_append, List.nil_append] <;> (try (simp (maxSteps := 2000000) -implicitDefEqProofs only [extO, extO2, extLe_no, or_true, Sz.o_sl, Sz.o_grows, Sz.o_kill, Sz.o_len, Sz.o_cap, Sz.o_isl, Sz.o_le, Sz.o_cells, Sz.o_one, Sz.oOk_c, Sz.oOk_o, Sz.oO_cells, Sz.oO_own, Sz.oV_s, Sz.oV_0, Sz.oO_nil, Sz.oO_iL, Sz.iL_nil, Sz.iL_snoc, List.length_append, Sz.iL_fold, Sz.iL_over, Sz.iL_all, Sz.iL_get, Sz.iL_len, Sz.iL_take, Sz.iL_drop, Sz.iL_one, Sz.iL_plain, Sz.iL_le, List.length_set, Sz.s_alt, Sz.s_alt20, Sz.s_alt2t, Sz.s_alt2f, ↓Sz.s_loopi, ↓Sz.v_pq, ↓Sz.PRE, Sz.POST, Sz.CORE, Nat.reduceDiv, Nat.reduceMod, Int.reduceLT, Int.reduceLE, Int.reduceToNat, Int.reduceAdd, ↓reduceIte, Nat.reduceEqDiff, Nat.reduceAdd, Nat.reduceMul, Nat.reduceSub, Nat.reduceLeDiff, Nat.reduceLT, reduceCtorEq, if_true, eq_self, forall_const, implies_true])) <;> (try simp only [Sz.Le, Sz.LeL, List.getElem?_cons_zero, List.getElem?_cons_succ]) <;> (try simp), keep0 hJ⟩ (fun key => key _ _ ⟨[0, 1, 2], by simp [Sz.NdL, Sz.NdA, Sz.oO_cells, Sz.oO_own, Sz.iL_nil], by simp only [FitM, ObLe, LeL, Le, List.cons_append, List.nil_append] <;> (try (simp (maxSteps := 2000000) -implicitDefEqProofs only [extO, extO2, extLe_no, or_true, Sz.o_sl, Sz.o_grows, Sz.o_kill, Sz.o_len, Sz.o_cap, Sz.o_isl, Sz.o_le, Sz.o_cells, Sz.o_one, Sz.oOk_c, Sz.oOk_o, Sz.oO_cells, Sz.oO_own, Sz.oV_s, Sz.oV_0, Sz.oO_nil, Sz.oO_iL, Sz.iL_nil, Sz.iL_snoc, List.length_append, Sz.iL_fold, Sz.iL_over, Sz.iL_all, Sz.iL_get, Sz.iL_len, Sz.iL_take, Sz.iL_drop, Sz.iL_one, Sz.iL_plain, Sz.iL_le, List.length_set, Sz.s_alt, Sz.s_alt20, Sz.s_alt2t, Sz.s_alt2f, ↓Sz.s_loopi, ↓Sz.v_pq, ↓Sz.PRE, Sz.POST, Sz.CORE, Nat.reduceDiv, Nat.reduceMod, Int.reduceLT, Int.reduceLE, Int.reduceToNat, Int.reduceAdd, ↓reduceIte, Nat.reduceEqDiff, Nat.reduceAdd, Nat.reduceMul, Nat.reduceSub, Nat.reduceLeDiff, Nat.reduceLT, reduceCtorEq, if_true, eq_self, forall_const, implies_true])) <;> (try simp), by simp only [FitE, Le, LeL, List.cons_append, List.nil_append] <;> (try (simp (maxSteps := 2000000) -implicitDefEqProofs only [extO, extO2, extLe_no, or_true, Sz.o_sl, Sz.o_grows, Sz.o_kill, Sz.o_len, Sz.o_cap, Sz.o_isl, Sz.o_le, Sz.o_cells, Sz.o_one, Sz.oOk_c, Sz.oOk_o, Sz.oO_cells, Sz.oO_own, Sz.oV_s, Sz.oV_0, Sz.oO_nil, Sz.oO_iL, Sz.iL_nil, Sz.iL_snoc, List.length_append, Sz.iL_fold, Sz.iL_over, Sz.iL_all, Sz.iL_get, Sz.iL_len, Sz.iL_take, Sz.iL_drop, Sz.iL_one, Sz.iL_plain, Sz.iL_le, List.length_set, Sz.s_alt, Sz.s_alt20, Sz.s_alt2t, Sz.s_alt2f, ↓Sz.s_loopi, ↓Sz.v_pq, ↓Sz.PRE, Sz.POST, Sz.CORE, Nat.reduceDiv, Nat.reduceMod, Int.reduceLT, Int.reduceLE, Int.reduceToNat, Int.reduceAdd, ↓reduceIte, Nat.reduceEqDiff, Nat.reduceAdd, Nat.reduceMul, Nat.reduceSub, Nat.reduceLeDiff, Nat.reduceLT, reduceCtorEq, if_true, eq_self, forall_const, implies_true])) <;> (try simp only [Sz.Le, Sz.LeL, List.getElem?_cons_zero, List.getElem?_cons_succ]) <;> (try simp), keep0 hJ⟩) fun e m hfit => ?_
            refine TXi_of (TX_count (@g5 J) a.b.pages.length (fun k => [(2, .ptr 0 0), (3, .ptr 1 0), (5, oV 2 1 L.length), (6, .v (.int .i64 (x : Int))), (7, .v (.bool false)), (29, .v (.int .i64 (N : Int))), (30, .v (.int .i64 (x : Int))), (79, .v (.int .i64 (a.b.pages.length : Int))), (80, .v (.int .i64 (k : Int)))]) (fun k => [⟨true, [.v (.int .i64 g1.ch), .v (.int .i64 g1.di), .v (.int .i64 g1.bl), .v (.int .i64 g1.pa), .v (.slice p xs.length c)]⟩, ⟨true, [.v (.int .i64 g2.ch), .v (.int .i64 g2.di), .v (.int .i64 g2.bl), .v (.int .i64 g2.pa), .v (.slice p' ys.length c')]⟩, oO (iL L)]) (fun k => True) trivial hfit ?_ ?_)
            · intro k hk2 _
              have k0 : (0 : Int) ≤ (k : Int) := by omega
              have k1 : (k : Int) < (a.b.pages.length : Int) := by omega
              have w2 : IntKind.i64.wrap ((k : Int) + 1) = (k : Int) + 1 := Sz.w_64 (by omega) (by omega)
              simp (maxSteps := 2000000) -implicitDefEqProofs only [k0, k1, w2, Bool.false_eq_true, Sz.s_alt, Sz.s_alt20, Sz.s_alt2t, Sz.s_alt2f, ↓Sz.s_loopi, ↓Sz.v_pq, ↓Sz.PRE, Sz.POST, Sz.CORE, Nat.reduceDiv, Nat.reduceMod, Int.reduceLT, Int.reduceLE, Int.reduceToNat, Int.reduceAdd, ↓reduceIte, Nat.reduceEqDiff, Nat.reduceAdd, Nat.reduceMul, Nat.reduceSub, Nat.reduceLeDiff, Nat.reduceLT, reduceCtorEq, if_true, eq_self, forall_const, implies_true]
              exact ⟨[0, 1, 2], by simp [Sz.NdL, Sz.NdA, Sz.oO_cells, Sz.oO_own, Sz.iL_nil], by simp only [FitM, ObLe, LeL, Le, List.cons_append, List.nil_append] <;> (try (simp (maxSteps := 2000000) -implicitDefEqProofs only [extO, extO2, extLe_no, or_true, Sz.o_sl, Sz.o_grows, Sz.o_kill, Sz.o_len, Sz.o_cap, Sz.o_isl, Sz.o_le, Sz.o_cells, Sz.o_one, Sz.oOk_c, Sz.oOk_o, Sz.oO_cells, Sz.oO_own, Sz.oV_s, Sz.oV_0, Sz.oO_nil, Sz.oO_iL, Sz.iL_nil, Sz.iL_snoc, List.length_append, Sz.iL_fold, Sz.iL_over, Sz.iL_all, Sz.iL_get, Sz.iL_len, Sz.iL_take, Sz.iL_drop, Sz.iL_one, Sz.iL_plain, Sz.iL_le, List.length_set, Sz.s_alt, Sz.s_alt20, Sz.s_alt2t, Sz.s_alt2f, ↓Sz.s_loopi, ↓Sz.v_pq, ↓Sz.PRE, Sz.POST, Sz.CORE, Nat.reduceDiv, Nat.reduceMod, Int.reduceLT, Int.reduceLE, Int.reduceToNat, Int.reduceAdd, ↓reduceIte, Nat.reduceEqDiff, Nat.reduceAdd, Nat.reduceMul, Nat.reduceSub, Nat.reduceLeDiff, Nat.reduceLT, reduceCtorEq, if_true, eq_self, forall_const, implies_true])) <;> (try simp), by simp only [FitE, Le, LeL, List.cons_append, List.nil_append] <;> (try (simp (maxSteps := 2000000) -implicitDefEqProofs only [extO, extO2, extLe_no, or_true, Sz.o_sl, Sz.o_grows, Sz.o_kill, Sz.o_len, Sz.o_cap, Sz.o_isl, Sz.o_le, Sz.o_cells, Sz.o_one, Sz.oOk_c, Sz.oOk_o, Sz.oO_cells, Sz.oO_own, Sz.oV_s, Sz.oV_0, Sz.oO_nil, Sz.oO_iL, Sz.iL_nil, Sz.iL_snoc, List.length_append, Sz.iL_fold, Sz.iL_over, Sz.iL_all, Sz.iL_get, Sz.iL_len, Sz.iL_take, Sz.iL_drop, Sz.iL_one, Sz.iL_plain, Sz.iL_le, List.length_set, Sz.s_alt, Sz.s_alt20, Sz.s_alt2t, Sz.s_alt2f, ↓Sz.s_loopi, ↓Sz.v_pq, ↓Sz.PRE, Sz.POST, Sz.CORE, Nat.reduceDiv, Nat.reduceMod, Int.reduceLT, Int.reduceLE, Int.reduceToNat, Int.reduceAdd, ↓reduceIte, Nat.reduceEqDiff, Nat.reduceAdd, Nat.reduceMul, Nat.reduceSub, Nat.reduceLeDiff, Nat.reduceLT, reduceCtorEq, if_true, eq_self, forall_const, implies_true])) <;> (try simp only [Sz.Le, Sz.LeL, List.getElem?_cons_zero, List.getElem?_cons_succ]) <;> (try simp), keep0 hJ⟩
            · intro _
              have k1 : ¬ (a.b.pages.length : Int) < (a.b.pages.length : Int) := by omega
              rw [out (by simp [eqB, q2])]
              simp (maxSteps := 2000000) -implicitDefEqProofs only [k1, w1, Sz.o_sl, Sz.o_grows, Sz.o_kill, Sz.o_len, Sz.o_cap, Sz.o_isl, Sz.o_le, Sz.o_cells, Sz.o_one, Sz.oOk_c, Sz.oOk_o, Sz.oO_cells, Sz.oO_own, Sz.oV_s, Sz.oV_0, Sz.oO_nil, Sz.oO_iL, Sz.iL_nil, Sz.iL_snoc, List.length_append, Sz.iL_fold, Sz.iL_over, Sz.iL_all, Sz.iL_get, Sz.iL_len, Sz.iL_take, Sz.iL_drop, Sz.iL_one, Sz.iL_plain, Sz.iL_le, List.length_set, Bool.not_false, Sz.s_alt, Sz.s_alt20, Sz.s_alt2t, Sz.s_alt2f, ↓Sz.s_loopi, ↓Sz.v_pq, ↓Sz.PRE, Sz.POST, Sz.CORE, Nat.reduceDiv, Nat.reduceMod, Int.reduceLT, Int.reduceLE, Int.reduceToNat, Int.reduceAdd, ↓reduceIte, Nat.reduceEqDiff, Nat.reduceAdd, Nat.reduceMul, Nat.reduceSub, Nat.reduceLeDiff, Nat.reduceLT, reduceCtorEq, if_true, eq_self, forall_const, implies_true]
              exact ⟨⟨by unfold maxLen; omega, by omega⟩, ⟨[0, 1, 4], by simp [Sz.NdL, Sz.NdA, Sz.oO_cells, Sz.oO_own, Sz.iL_nil], by simp only [FitM, ObLe, LeL, Le, List.cons_append, List.nil_append] <;> (try (simp (maxSteps := 2000000) -implicitDefEqProofs only [extO, extO2, extLe_no, or_true, Sz.o_sl, Sz.o_grows, Sz.o_kill, Sz.o_len, Sz.o_cap, Sz.o_isl, Sz.o_le, Sz.o_cells, Sz.o_one, Sz.oOk_c, Sz.oOk_o, Sz.oO_cells, Sz.oO_own, Sz.oV_s, Sz.oV_0, Sz.oO_nil, Sz.oO_iL, Sz.iL_nil, Sz.iL_snoc, List.length_append, Sz.iL_fold, Sz.iL_over, Sz.iL_all, Sz.iL_get, Sz.iL_len, Sz.iL_take, Sz.iL_drop, Sz.iL_one, Sz.iL_plain, Sz.iL_le, List.length_set, List.length_cons, List.length_nil, Sz.s_alt, Sz.s_alt20, Sz.s_alt2t, Sz.s_alt2f, ↓Sz.s_loopi, ↓Sz.v_pq, ↓Sz.PRE, Sz.POST, Sz.CORE, Nat.reduceDiv, Nat.reduceMod, Int.reduceLT, Int.reduceLE, Int.reduceToNat, Int.reduceAdd, ↓reduceIte, Nat.reduceEqDiff, Nat.reduceAdd, Nat.reduceMul, Nat.reduceSub, Nat.reduceLeDiff, Nat.reduceLT, reduceCtorEq, if_true, eq_self, forall_const, implies_true])) <;> (try simp), by simp only [FitE, Le, LeL, List.cons_append, List.nil_append] <;> (try (simp (maxSteps := 2000000) -implicitDefEqProofs only [extO, extO2, extLe_no, or_true, Sz.o_sl, Sz.o_grows, Sz.o_kill, Sz.o_len, Sz.o_cap, Sz.o_isl, Sz.o_le, Sz.o_cells, Sz.o_one, Sz.oOk_c, Sz.oOk_o, Sz.oO_cells, Sz.oO_own, Sz.oV_s, Sz.oV_0, Sz.oO_nil, Sz.oO_iL, Sz.iL_nil, Sz.iL_snoc, List.length_append, Sz.iL_fold, Sz.iL_over, Sz.iL_all, Sz.iL_get, Sz.iL_len, Sz.iL_take, Sz.iL_drop, Sz.iL_one, Sz.iL_plain, Sz.iL_le, List.length_set, List.length_cons, List.length_nil, Sz.s_alt, Sz.s_alt20, Sz.s_alt2t, Sz.s_alt2f, ↓Sz.s_loopi, ↓Sz.v_pq, ↓Sz.PRE, Sz.POST, Sz.CORE, Nat.reduceDiv, Nat.reduceMod, Int.reduceLT, Int.reduceLE, Int.reduceToNat, Int.reduceAdd, ↓reduceIte, Nat.reduceEqDiff, Nat.reduceAdd, Nat.reduceMul, Nat.reduceSub, Nat.reduceLeDiff, Nat.reduceLT, reduceCtorEq, if_true, eq_self, forall_const, implies_true])) <;> (try simp only [Sz.Le, Sz.LeL, List.getElem?_cons_zero, List.getElem?_cons_succ]) <;> (try simp), keep0 hJ⟩⟩
          | true =>
            cases q3 : ((a.b.pages.length : Int) == (b.b.pages.length : Int)) with
            | false =>
              have q3n : (a.b.pages.length == b.b.pages.length) = false := by simp only [beq_eq_false_iff_ne, ne_eq] at q3 ⊢; omega
              simp (maxSteps := 2000000) -implicitDefEqProofs only [i0, i1, j3, j4, f, f', hp, hp', w1, q1, q2, q3, Sz.s_alt, Sz.s_alt20, Sz.s_alt2t, Sz.s_alt2f, ↓Sz.s_loopi, ↓Sz.v_pq, ↓Sz.PRE, Sz.POST, Sz.CORE, Nat.reduceDiv, Nat.reduceMod, Int.reduceLT, Int.reduceLE, Int.reduceToNat, Int.reduceAdd, ↓reduceIte, Nat.reduceEqDiff, Nat.reduceAdd, Nat.reduceMul, Nat.reduceSub, Nat.reduceLeDiff, Nat.reduceLT, reduceCtorEq, if_true, eq_self, forall_const, implies_true]
              refine TXi_key (C := fun e m => Fit e m [(2, .ptr 0 0), (3, .ptr 1 0), (5, oV 2 1 L.length), (6, .v (.int .i64 (x : Int))), (7, .v (.bool false)), (29, .v (.int .i64 (N : Int))), (30, .v (.int .i64 (x : Int))), (79, .v (.int .i64 (a.b.pages.length : Int))), (80, .v (.int .i64 (0 : Int)))] [⟨true, [.v (.int .i64 g1.ch), .v (.int .i64 g1.di), .v (.int .i64 g1.bl), .v (.int .i64 g1.pa), .v (.slice p xs.length c)]⟩, ⟨true, [.v (.int .i64 g2.ch), .v (.int .i64 g2.di), .v (.int .i64 g2.bl), .v (.int .i64 g2.pa), .v (.slice p' ys.length c')]⟩, oO (iL L)]) ⟨[0, 1, 2], by simp [Sz.NdL, Sz.NdA, Sz.oO_cells, Sz.oO_own, Sz.iL_nil], by simp only [FitM, ObLe, LeL, Le, List.cons_append, List.nil_append] <;> (try (simp (maxSteps := 2000000) -implicitDefEqProofs only [extO, extO2, extLe_no, or_true, Sz.o_sl, Sz.o_grows, Sz.o_kill, Sz.o_len, Sz.o_cap, Sz.o_isl, Sz.o_le, Sz.o_cells, Sz.o_one, Sz.oOk_c, Sz.oOk_o, Sz.oO_cells, Sz.oO_own, Sz.oV_s, Sz.oV_0, Sz.oO_nil, Sz.oO_iL, Sz.iL_nil, Sz.iL_snoc, List.length_append, Sz.iL_fold, Sz.iL_over, Sz.iL_all, Sz.iL_get, Sz.iL_len, Sz.iL_take, Sz.iL_drop, Sz.iL_one, Sz.iL_plain, Sz.iL_le, List.length_set, Sz.s_alt, Sz.s_alt20, Sz.s_alt2t, Sz.s_alt2f, ↓Sz.s_loopi, ↓Sz.v_pq, ↓Sz.PRE, Sz.POST, Sz.CORE, Nat.reduceDiv, Nat.reduceMod, Int.reduceLT, Int.reduceLE, Int.reduceToNat, Int.reduceAdd, ↓reduceIte, Nat.reduceEqDiff, Nat.reduceAdd, Nat.reduceMul, Nat.reduceSub, Nat.reduceLeDiff, Nat.reduceLT, reduceCtorEq, if_true, eq_self, forall_const, implies_true])) <;> (try simp), by simp only [FitE, Le, LeL, List.cons_append, List.nil_append] <;> (try (simp (maxSteps := 2000000) -implicitDefEqProofs only [extO, extO2, extLe_no, or_true, Sz.o_sl, Sz.o_grows, Sz.o_kill, Sz.o_len, Sz.o_cap, Sz.o_isl, Sz.o_le, Sz.o_cells, Sz.o_one, Sz.oOk_c, Sz.oOk_o, Sz.oO_cells, Sz.oO_own, Sz.oV_s, Sz.oV_0, Sz.oO_nil, Sz.oO_iL, Sz.iL_nil, Sz.iL_snoc, List.length_append, Sz.iL_fold, Sz.iL_over, Sz.iL_all, Sz.iL_get, Sz.iL_len, Sz.iL_take, Sz.iL_drop, Sz.iL_one, Sz.iL_plain, Sz.iL_le, List.length_set, Sz.s_alt, Sz.s_alt20, Sz.s_alt2t, Sz.s_alt2f, ↓Sz.s_loopi, ↓Sz.v_pq, ↓Sz.PRE, Sz.POST, Sz.CORE, Nat.reduceDiv, Nat.reduceMod, Int.reduceLT, Int.reduceLE, Int.reduceToNat, Int.reduceAdd, ↓reduceIte, Nat.reduceEqDiff, Nat.reduceAdd, Nat.reduceMul, Nat.reduceSub, Nat.reduceLeDiff, Nat.reduceLT, reduceCtorEq, if_true, eq_self, forall_const, implies_true])) <;> (try simp only [Sz.Le, Sz.LeL, List.getElem?_cons_zero, List.getElem?_cons_succ]) <;> (try simp), keep0 hJ⟩ (fun key => key _ _ ⟨[0, 1, 2], by simp [Sz.NdL, Sz.NdA, Sz.oO_cells, Sz.oO_own, Sz.iL_nil], by simp only [FitM, ObLe, LeL, Le, List.cons_append, List.nil_append] <;> (try (simp (maxSteps := 2000000) -implicitDefEqProofs only [extO, extO2, extLe_no, or_true, Sz.o_sl, Sz.o_grows, Sz.o_kill, Sz.o_len, Sz.o_cap, Sz.o_isl, Sz.o_le, Sz.o_cells, Sz.o_one, Sz.oOk_c, Sz.oOk_o, Sz.oO_cells, Sz.oO_own, Sz.oV_s, Sz.oV_0, Sz.oO_nil, Sz.oO_iL, Sz.iL_nil, Sz.iL_snoc, List.length_append, Sz.iL_fold, Sz.iL_over, Sz.iL_all, Sz.iL_get, Sz.iL_len, Sz.iL_take, Sz.iL_drop, Sz.iL_one, Sz.iL_plain, Sz.iL_le, List.length_set, Sz.s_alt, Sz.s_alt20, Sz.s_alt2t, Sz.s_alt2f, ↓Sz.s_loopi, ↓Sz.v_pq, ↓Sz.PRE, Sz.POST, Sz.CORE, Nat.reduceDiv, Nat.reduceMod, Int.reduceLT, Int.reduceLE, Int.reduceToNat, Int.reduceAdd, ↓reduceIte, Nat.reduceEqDiff, Nat.reduceAdd, Nat.reduceMul, Nat.reduceSub, Nat.reduceLeDiff, Nat.reduceLT, reduceCtorEq, if_true, eq_self, forall_const, implies_true])) <;> (try simp), by simp only [FitE, Le, LeL, List.cons_append, List.nil_append] <;> (try (simp (maxSteps := 2000000) -implicitDefEqProofs only [extO, extO2, extLe_no, or_true, Sz.o_sl, Sz.o_grows, Sz.o_kill, Sz.o_len, Sz.o_cap, Sz.o_isl, Sz.o_le, Sz.o_cells, Sz.o_one, Sz.oOk_c, Sz.oOk_o, Sz.oO_cells, Sz.oO_own, Sz.oV_s, Sz.oV_0, Sz.oO_nil, Sz.oO_iL, Sz.iL_nil, Sz.iL_snoc, List.length_append, Sz.iL_fold, Sz.iL_over, Sz.iL_all, Sz.iL_get, Sz.iL_len, Sz.iL_take, Sz.iL_drop, Sz.iL_one, Sz.iL_plain, Sz.iL_le, List.length_set, Sz.s_alt, Sz.s_alt20, Sz.s_alt2t, Sz.s_alt2f, ↓Sz.s_loopi, ↓Sz.v_pq, ↓Sz.PRE, Sz.POST, Sz.CORE, Nat.reduceDiv, Nat.reduceMod, Int.reduceLT, Int.reduceLE, Int.reduceToNat, Int.reduceAdd, ↓reduceIte, Nat.reduceEqDiff, Nat.reduceAdd, Nat.reduceMul, Nat.reduceSub, Nat.reduceLeDiff, Nat.reduceLT, reduceCtorEq, if_true, eq_self, forall_const, implies_true])) <;> (try simp only [Sz.Le, Sz.LeL, List.getElem?_cons_zero, List.getElem?_cons_succ]) <;> (try simp), keep0 hJ⟩) fun e m hfit => ?_
              refine TXi_of (TX_count (@g5 J) a.b.pages.length (fun k => [(2, .ptr 0 0), (3, .ptr 1 0), (5, oV 2 1 L.length), (6, .v (.int .i64 (x : Int))), (7, .v (.bool false)), (29, .v (.int .i64 (N : Int))), (30, .v (.int .i64 (x : Int))), (79, .v (.int .i64 (a.b.pages.length : Int))), (80, .v (.int .i64 (k : Int)))]) (fun k => [⟨true, [.v (.int .i64 g1.ch), .v (.int .i64 g1.di), .v (.int .i64 g1.bl), .v (.int .i64 g1.pa), .v (.slice p xs.length c)]⟩, ⟨true, [.v (.int .i64 g2.ch), .v (.int .i64 g2.di), .v (.int .i64 g2.bl), .v (.int .i64 g2.pa), .v (.slice p' ys.length c')]⟩, oO (iL L)]) (fun k => True) trivial hfit ?_ ?_)
              · intro k hk2 _
                have k0 : (0 : Int) ≤ (k : Int) := by omega
                have k1 : (k : Int) < (a.b.pages.length : Int) := by omega
                have w2 : IntKind.i64.wrap ((k : Int) + 1) = (k : Int) + 1 := Sz.w_64 (by omega) (by omega)
                simp (maxSteps := 2000000) -implicitDefEqProofs only [k0, k1, w2, Bool.false_eq_true, Sz.s_alt, Sz.s_alt20, Sz.s_alt2t, Sz.s_alt2f, ↓Sz.s_loopi, ↓Sz.v_pq, ↓Sz.PRE, Sz.POST, Sz.CORE, Nat.reduceDiv, Nat.reduceMod, Int.reduceLT, Int.reduceLE, Int.reduceToNat, Int.reduceAdd, ↓reduceIte, Nat.reduceEqDiff, Nat.reduceAdd, Nat.reduceMul, Nat.reduceSub, Nat.reduceLeDiff, Nat.reduceLT, reduceCtorEq, if_true, eq_self, forall_const, implies_true]
                exact ⟨[0, 1, 2], by simp [Sz.NdL, Sz.NdA, Sz.oO_cells, Sz.oO_own, Sz.iL_nil], by simp only [FitM, ObLe, LeL, Le, List.cons_append, List.nil_append] <;> (try (simp (maxSteps := 2000000) -implicitDefEqProofs only [extO, extO2, extLe_no, or_true, Sz.o_sl, Sz.o_grows, Sz.o_kill, Sz.o_len, Sz.o_cap, Sz.o_isl, Sz.o_le, Sz.o_cells, Sz.o_one, Sz.oOk_c, Sz.oOk_o, Sz.oO_cells, Sz.oO_own, Sz.oV_s, Sz.oV_0, Sz.oO_nil, Sz.oO_iL, Sz.iL_nil, Sz.iL_snoc, List.length_append, Sz.iL_fold, Sz.iL_over, Sz.iL_all, Sz.iL_get, Sz.iL_len, Sz.iL_take, Sz.iL_drop, Sz.iL_one, Sz.iL_plain, Sz.iL_le, List.length_set, Sz.s_alt, Sz.s_alt20, Sz.s_alt2t, Sz.s_alt2f, ↓Sz.s_loopi, ↓Sz.v_pq, ↓Sz.PRE, Sz.POST, Sz.CORE, Nat.reduceDiv, Nat.reduceMod, Int.reduceLT, Int.reduceLE, Int.reduceToNat, Int.reduceAdd, ↓reduceIte, Nat.reduceEqDiff, Nat.reduceAdd, Nat.reduceMul, Nat.reduceSub, Nat.reduceLeDiff, Nat.reduceLT, reduceCtorEq, if_true, eq_self, forall_const, implies_true])) <;> (try simp), by simp only [FitE, Le, LeL, List.cons_append, List.nil_append] <;> (try (simp (maxSteps := 2000000) -implicitDefEqProofs only [extO, extO2, extLe_no, or_true, Sz.o_sl, Sz.o_grows, Sz.o_kill, Sz.o_len, Sz.o_cap, Sz.o_isl, Sz.o_le, Sz.o_cells, Sz.o_one, Sz.oOk_c, Sz.oOk_o, Sz.oO_cells, Sz.oO_own, Sz.oV_s, Sz.oV_0, Sz.oO_nil, Sz.oO_iL, Sz.iL_nil, Sz.iL_snoc, List.length_append, Sz.iL_fold, Sz.iL_over, Sz.iL_all, Sz.iL_get, Sz.iL_len, Sz.iL_take, Sz.iL_drop, Sz.iL_one, Sz.iL_plain, Sz.iL_le, List.length_set, Sz.s_alt, Sz.s_alt20, Sz.s_alt2t, Sz.s_alt2f, ↓Sz.s_loopi, ↓Sz.v_pq, ↓Sz.PRE, Sz.POST, Sz.CORE, Nat.reduceDiv, Nat.reduceMod, Int.reduceLT, Int.reduceLE, Int.reduceToNat, Int.reduceAdd, ↓reduceIte, Nat.reduceEqDiff, Nat.reduceAdd, Nat.reduceMul, Nat.reduceSub, Nat.reduceLeDiff, Nat.reduceLT, reduceCtorEq, if_true, eq_self, forall_const, implies_true])) <;> (try simp only [Sz.Le, Sz.LeL, List.getElem?_cons_zero, List.getElem?_cons_succ]) <;> (try simp), keep0 hJ⟩
              · intro _
                have k1 : ¬ (a.b.pages.length : Int) < (a.b.pages.length : Int) := by omega
                rw [out (by simp [eqB, eqPs, q3n])]
                simp (maxSteps := 2000000) -implicitDefEqProofs only [k1, w1, Sz.o_sl, Sz.o_grows, Sz.o_kill, Sz.o_len, Sz.o_cap, Sz.o_isl, Sz.o_le, Sz.o_cells, Sz.o_one, Sz.oOk_c, Sz.oOk_o, Sz.oO_cells, Sz.oO_own, Sz.oV_s, Sz.oV_0, Sz.oO_nil, Sz.oO_iL, Sz.iL_nil, Sz.iL_snoc, List.length_append, Sz.iL_fold, Sz.iL_over, Sz.iL_all, Sz.iL_get, Sz.iL_len, Sz.iL_take, Sz.iL_drop, Sz.iL_one, Sz.iL_plain, Sz.iL_le, List.length_set, Bool.not_false, Sz.s_alt, Sz.s_alt20, Sz.s_alt2t, Sz.s_alt2f, ↓Sz.s_loopi, ↓Sz.v_pq, ↓Sz.PRE, Sz.POST, Sz.CORE, Nat.reduceDiv, Nat.reduceMod, Int.reduceLT, Int.reduceLE, Int.reduceToNat, Int.reduceAdd, ↓reduceIte, Nat.reduceEqDiff, Nat.reduceAdd, Nat.reduceMul, Nat.reduceSub, Nat.reduceLeDiff, Nat.reduceLT, reduceCtorEq, if_true, eq_self, forall_const, implies_true]
                exact ⟨⟨by unfold maxLen; omega, by omega⟩, ⟨[0, 1, 4], by simp [Sz.NdL, Sz.NdA, Sz.oO_cells, Sz.oO_own, Sz.iL_nil], by simp only [FitM, ObLe, LeL, Le, List.cons_append, List.nil_append] <;> (try (simp (maxSteps := 2000000) -implicitDefEqProofs only [extO, extO2, extLe_no, or_true, Sz.o_sl, Sz.o_grows, Sz.o_kill, Sz.o_len, Sz.o_cap, Sz.o_isl, Sz.o_le, Sz.o_cells, Sz.o_one, Sz.oOk_c, Sz.oOk_o, Sz.oO_cells, Sz.oO_own, Sz.oV_s, Sz.oV_0, Sz.oO_nil, Sz.oO_iL, Sz.iL_nil, Sz.iL_snoc, List.length_append, Sz.iL_fold, Sz.iL_over, Sz.iL_all, Sz.iL_get, Sz.iL_len, Sz.iL_take, Sz.iL_drop, Sz.iL_one, Sz.iL_plain, Sz.iL_le, List.length_set, List.length_cons, List.length_nil, Sz.s_alt, Sz.s_alt20, Sz.s_alt2t, Sz.s_alt2f, ↓Sz.s_loopi, ↓Sz.v_pq, ↓Sz.PRE, Sz.POST, Sz.CORE, Nat.reduceDiv, Nat.reduceMod, Int.reduceLT, Int.reduceLE, Int.reduceToNat, Int.reduceAdd, ↓reduceIte, Nat.reduceEqDiff, Nat.reduceAdd, Nat.reduceMul, Nat.reduceSub, Nat.reduceLeDiff, Nat.reduceLT, reduceCtorEq, if_true, eq_self, forall_const, implies_true])) <;> (try simp), by simp only [FitE, Le, LeL, List.cons_append, List.nil_append] <;> (try (simp (maxSteps := 2000000) -implicitDefEqProofs only [extO, extO2, extLe_no, or_true, Sz.o_sl, Sz.o_grows, Sz.o_kill, Sz.o_len, Sz.o_cap, Sz.o_isl, Sz.o_le, Sz.o_cells, Sz.o_one, Sz.oOk_c, Sz.oOk_o, Sz.oO_cells, Sz.oO_own, Sz.oV_s, Sz.oV_0, Sz.oO_nil, Sz.oO_iL, Sz.iL_nil, Sz.iL_snoc, List.length_append, Sz.iL_fold, Sz.iL_over, Sz.iL_all, Sz.iL_get, Sz.iL_len, Sz.iL_take, Sz.iL_drop, Sz.iL_one, Sz.iL_plain, Sz.iL_le, List.length_set, List.length_cons, List.length_nil, Sz.s_alt, Sz.s_alt20, Sz.s_alt2t, Sz.s_alt2f, ↓Sz.s_loopi, ↓Sz.v_pq, ↓Sz.PRE, Sz.POST, Sz.CORE, Nat.reduceDiv, Nat.reduceMod, Int.reduceLT, Int.reduceLE, Int.reduceToNat, Int.reduceAdd, ↓reduceIte, Nat.reduceEqDiff, Nat.reduceAdd, Nat.reduceMul, Nat.reduceSub, Nat.reduceLeDiff, Nat.reduceLT, reduceCtorEq, if_true, eq_self, forall_const, implies_true])) <;> (try simp only [Sz.Le, Sz.LeL, List.getElem?_cons_zero, List.getElem?_cons_succ]) <;> (try simp), keep0 hJ⟩⟩
            | true =>
              have q3n : a.b.pages.length = b.b.pages.length := by simp only [beq_iff_eq] at q3; omega
              simp (maxSteps := 2000000) -implicitDefEqProofs only [i0, i1, j3, j4, f, f', hp, hp', w1, q1, q2, q3, Sz.s_alt, Sz.s_alt20, Sz.s_alt2t, Sz.s_alt2f, ↓Sz.s_loopi, ↓Sz.v_pq, ↓Sz.PRE, Sz.POST, Sz.CORE, Nat.reduceDiv, Nat.reduceMod, Int.reduceLT, Int.reduceLE, Int.reduceToNat, Int.reduceAdd, ↓reduceIte, Nat.reduceEqDiff, Nat.reduceAdd, Nat.reduceMul, Nat.reduceSub, Nat.reduceLeDiff, Nat.reduceLT, reduceCtorEq, if_true, eq_self, forall_const, implies_true]
              refine TXi_key (C := fun e m => Fit e m [(2, .ptr 0 0), (3, .ptr 1 0), (5, oV 2 1 L.length), (6, .v (.int .i64 (x : Int))), (7, .v (.bool true)), (8, .ptr 3 0), (9, .ptr 4 0), (29, .v (.int .i64 (N : Int))), (30, .v (.int .i64 (x : Int))), (79, .v (.int .i64 (a.b.pages.length : Int))), (80, .v (.int .i64 (0 : Int)))] [⟨true, [.v (.int .i64 g1.ch), .v (.int .i64 g1.di), .v (.int .i64 g1.bl), .v (.int .i64 g1.pa), .v (.slice p xs.length c)]⟩, ⟨true, [.v (.int .i64 g2.ch), .v (.int .i64 g2.di), .v (.int .i64 g2.bl), .v (.int .i64 g2.pa), .v (.slice p' ys.length c')]⟩, oO (iL L), ⟨true, [.v (.bool a.b.bad), .v (.int .i64 a.b.er), .v (.slice a.a a.b.pages.length a.c)]⟩, ⟨true, [.v (.bool b.b.bad), .v (.int .i64 b.b.er), .v (.slice b.a b.b.pages.length b.c)]⟩]) ⟨[0, 1, 2, 3, 4], by simp [Sz.NdL, Sz.NdA, Sz.oO_cells, Sz.oO_own, Sz.iL_nil], by simp only [FitM, ObLe, LeL, Le, List.cons_append, List.nil_append] <;> (try (simp (maxSteps := 2000000) -implicitDefEqProofs only [extO, extO2, extLe_no, or_true, Sz.o_sl, Sz.o_grows, Sz.o_kill, Sz.o_len, Sz.o_cap, Sz.o_isl, Sz.o_le, Sz.o_cells, Sz.o_one, Sz.oOk_c, Sz.oOk_o, Sz.oO_cells, Sz.oO_own, Sz.oV_s, Sz.oV_0, Sz.oO_nil, Sz.oO_iL, Sz.iL_nil, Sz.iL_snoc, List.length_append, Sz.iL_fold, Sz.iL_over, Sz.iL_all, Sz.iL_get, Sz.iL_len, Sz.iL_take, Sz.iL_drop, Sz.iL_one, Sz.iL_plain, Sz.iL_le, List.length_set, Sz.s_alt, Sz.s_alt20, Sz.s_alt2t, Sz.s_alt2f, ↓Sz.s_loopi, ↓Sz.v_pq, ↓Sz.PRE, Sz.POST, Sz.CORE, Nat.reduceDiv, Nat.reduceMod, Int.reduceLT, Int.reduceLE, Int.reduceToNat, Int.reduceAdd, ↓reduceIte, Nat.reduceEqDiff, Nat.reduceAdd, Nat.reduceMul, Nat.reduceSub, Nat.reduceLeDiff, Nat.reduceLT, reduceCtorEq, if_true, eq_self, forall_const, implies_true])) <;> (try simp), by simp only [FitE, Le, LeL, List.cons_append, List.nil_append] <;> (try (simp (maxSteps := 2000000) -implicitDefEqProofs only [extO, extO2, extLe_no, or_true, Sz.o_sl, Sz.o_grows, Sz.o_kill, Sz.o_len, Sz.o_cap, Sz.o_isl, Sz.o_le, Sz.o_cells, Sz.o_one, Sz.oOk_c, Sz.oOk_o, Sz.oO_cells, Sz.oO_own, Sz.oV_s, Sz.oV_0, Sz.oO_nil, Sz.oO_iL, Sz.iL_nil, Sz.iL_snoc, List.length_append, Sz.iL_fold, Sz.iL_over, Sz.iL_all, Sz.iL_get, Sz.iL_len, Sz.iL_take, Sz.iL_drop, Sz.iL_one, Sz.iL_plain, Sz.iL_le, List.length_set, Sz.s_alt, Sz.s_alt20, Sz.s_alt2t, Sz.s_alt2f, ↓Sz.s_loopi, ↓Sz.v_pq, ↓Sz.PRE, Sz.POST, Sz.CORE, Nat.reduceDiv, Nat.reduceMod, Int.reduceLT, Int.reduceLE, Int.reduceToNat, Int.reduceAdd, ↓reduceIte, Nat.reduceEqDiff, Nat.reduceAdd, Nat.reduceMul, Nat.reduceSub, Nat.reduceLeDiff, Nat.reduceLT, reduceCtorEq, if_true, eq_self, forall_const, implies_true])) <;> (try simp only [Sz.Le, Sz.LeL, List.getElem?_cons_zero, List.getElem?_cons_succ]) <;> (try simp), keep0 hJ⟩ (fun key => key _ _ ⟨[0, 1, 2, 4, 3], by simp [Sz.NdL, Sz.NdA, Sz.oO_cells, Sz.oO_own, Sz.iL_nil], by simp only [FitM, ObLe, LeL, Le, List.cons_append, List.nil_append] <;> (try (simp (maxSteps := 2000000) -implicitDefEqProofs only [extO, extO2, extLe_no, or_true, Sz.o_sl, Sz.o_grows, Sz.o_kill, Sz.o_len, Sz.o_cap, Sz.o_isl, Sz.o_le, Sz.o_cells, Sz.o_one, Sz.oOk_c, Sz.oOk_o, Sz.oO_cells, Sz.oO_own, Sz.oV_s, Sz.oV_0, Sz.oO_nil, Sz.oO_iL, Sz.iL_nil, Sz.iL_snoc, List.length_append, Sz.iL_fold, Sz.iL_over, Sz.iL_all, Sz.iL_get, Sz.iL_len, Sz.iL_take, Sz.iL_drop, Sz.iL_one, Sz.iL_plain, Sz.iL_le, List.length_set, Sz.s_alt, Sz.s_alt20, Sz.s_alt2t, Sz.s_alt2f, ↓Sz.s_loopi, ↓Sz.v_pq, ↓Sz.PRE, Sz.POST, Sz.CORE, Nat.reduceDiv, Nat.reduceMod, Int.reduceLT, Int.reduceLE, Int.reduceToNat, Int.reduceAdd, ↓reduceIte, Nat.reduceEqDiff, Nat.reduceAdd, Nat.reduceMul, Nat.reduceSub, Nat.reduceLeDiff, Nat.reduceLT, reduceCtorEq, if_true, eq_self, forall_const, implies_true])) <;> (try simp), by simp only [FitE, Le, LeL, List.cons_append, List.nil_append] <;> (try (simp (maxSteps := 2000000) -implicitDefEqProofs only [extO, extO2, extLe_no, or_true, Sz.o_sl, Sz.o_grows, Sz.o_kill, Sz.o_len, Sz.o_cap, Sz.o_isl, Sz.o_le, Sz.o_cells, Sz.o_one, Sz.oOk_c, Sz.oOk_o, Sz.oO_cells, Sz.oO_own, Sz.oV_s, Sz.oV_0, Sz.oO_nil, Sz.oO_iL, Sz.iL_nil, Sz.iL_snoc, List.length_append, Sz.iL_fold, Sz.iL_over, Sz.iL_all, Sz.iL_get, Sz.iL_len, Sz.iL_take, Sz.iL_drop, Sz.iL_one, Sz.iL_plain, Sz.iL_le, List.length_set, Sz.s_alt, Sz.s_alt20, Sz.s_alt2t, Sz.s_alt2f, ↓Sz.s_loopi, ↓Sz.v_pq, ↓Sz.PRE, Sz.POST, Sz.CORE, Nat.reduceDiv, Nat.reduceMod, Int.reduceLT, Int.reduceLE, Int.reduceToNat, Int.reduceAdd, ↓reduceIte, Nat.reduceEqDiff, Nat.reduceAdd, Nat.reduceMul, Nat.reduceSub, Nat.reduceLeDiff, Nat.reduceLT, reduceCtorEq, if_true, eq_self, forall_const, implies_true])) <;> (try simp only [Sz.Le, Sz.LeL, List.getElem?_cons_zero, List.getElem?_cons_succ]) <;> (try simp), keep0 hJ⟩) fun e m hfit => ?_
              refine TXi_of (TX_count (@g5 J) a.b.pages.length (fun k => [(2, .ptr 0 0), (3, .ptr 1 0), (5, oV 2 1 L.length), (6, .v (.int .i64 (x : Int))), (7, .v (.bool (((a.b.pages.zip b.b.pages).take k).all fun z => eqP z.1 z.2))), (8, .ptr 3 0), (9, .ptr 4 0), (29, .v (.int .i64 (N : Int))), (30, .v (.int .i64 (x : Int))), (79, .v (.int .i64 (a.b.pages.length : Int))), (80, .v (.int .i64 (k : Int)))]) (fun k => [⟨true, [.v (.int .i64 g1.ch), .v (.int .i64 g1.di), .v (.int .i64 g1.bl), .v (.int .i64 g1.pa), .v (.slice p xs.length c)]⟩, ⟨true, [.v (.int .i64 g2.ch), .v (.int .i64 g2.di), .v (.int .i64 g2.bl), .v (.int .i64 g2.pa), .v (.slice p' ys.length c')]⟩, oO (iL L), ⟨true, [.v (.bool a.b.bad), .v (.int .i64 a.b.er), .v (.slice a.a a.b.pages.length a.c)]⟩, ⟨true, [.v (.bool b.b.bad), .v (.int .i64 b.b.er), .v (.slice b.a b.b.pages.length b.c)]⟩]) (fun k => True) trivial hfit ?_ ?_)
              · intro k hk2 _
                obtain ⟨pa, hpa⟩ : ∃ pa, a.b.pages[k]? = some pa := ⟨_, List.getElem?_eq_getElem hk2⟩
                obtain ⟨pb, hpb⟩ : ∃ pb, b.b.pages[k]? = some pb := ⟨_, List.getElem?_eq_getElem (by omega)⟩
                have f3 : inpL (plusA a.a (k * 3)) 3 = some [.bool pa.torn, .string pa.beside, .string pa.data] := inp_item Pg.len (hx0 a (List.mem_of_getElem? ha')) rfl hpa
                have f4 : inpL (plusA b.a (k * 3)) 3 = some [.bool pb.torn, .string pb.beside, .string pb.data] := inp_item Pg.len (hy0 b (List.mem_of_getElem? hb')) rfl hpb
                have pp1 : a.a.isSome = true := inpL_isSome (hx0 a (List.mem_of_getElem? ha')) (by omega)
                have pp2 : b.a.isSome = true := inpL_isSome (hy0 b (List.mem_of_getElem? hb')) (by omega)
                have k0 : (0 : Int) ≤ (k : Int) := by omega
                have k1 : (k : Int) < (a.b.pages.length : Int) := by omega
                have k2 : (k : Int) < (b.b.pages.length : Int) := by omega
                have w2 : IntKind.i64.wrap ((k : Int) + 1) = (k : Int) + 1 := Sz.w_64 (by omega) (by omega)
                have hz := zip_at hpa hpb
                have he : eqP pa pb = (pa.torn == pb.torn && (pa.beside.toList == pb.beside.toList && pa.data.toList == pb.data.toList)) := by simp [eqP]
                have hs := all_snoc (fun z : Pg × Pg => eqP z.1 z.2) hz
                simp only at hs
                rw [he] at hs
                rw [hs]
                cases ((a.b.pages.zip b.b.pages).take k).all fun z => eqP z.1 z.2 with
                | false =>
                  simp (maxSteps := 2000000) -implicitDefEqProofs only [k0, k1, w2, Bool.false_eq_true, Bool.false_and, Sz.s_alt, Sz.s_alt20, Sz.s_alt2t, Sz.s_alt2f, ↓Sz.s_loopi, ↓Sz.v_pq, ↓Sz.PRE, Sz.POST, Sz.CORE, Nat.reduceDiv, Nat.reduceMod, Int.reduceLT, Int.reduceLE, Int.reduceToNat, Int.reduceAdd, ↓reduceIte, Nat.reduceEqDiff, Nat.reduceAdd, Nat.reduceMul, Nat.reduceSub, Nat.reduceLeDiff, Nat.reduceLT, reduceCtorEq, if_true, eq_self, forall_const, implies_true]
                  exact ⟨[0, 1, 2, 3, 4], by simp [Sz.NdL, Sz.NdA, Sz.oO_cells, Sz.oO_own, Sz.iL_nil], by simp only [FitM, ObLe, LeL, Le, List.cons_append, List.nil_append] <;> (try (simp (maxSteps := 2000000) -implicitDefEqProofs only [extO, extO2, extLe_no, or_true, Sz.o_sl, Sz.o_grows, Sz.o_kill, Sz.o_len, Sz.o_cap, Sz.o_isl, Sz.o_le, Sz.o_cells, Sz.o_one, Sz.oOk_c, Sz.oOk_o, Sz.oO_cells, Sz.oO_own, Sz.oV_s, Sz.oV_0, Sz.oO_nil, Sz.oO_iL, Sz.iL_nil, Sz.iL_snoc, List.length_append, Sz.iL_fold, Sz.iL_over, Sz.iL_all, Sz.iL_get, Sz.iL_len, Sz.iL_take, Sz.iL_drop, Sz.iL_one, Sz.iL_plain, Sz.iL_le, List.length_set, Sz.s_alt, Sz.s_alt20, Sz.s_alt2t, Sz.s_alt2f, ↓Sz.s_loopi, ↓Sz.v_pq, ↓Sz.PRE, Sz.POST, Sz.CORE, Nat.reduceDiv, Nat.reduceMod, Int.reduceLT, Int.reduceLE, Int.reduceToNat, Int.reduceAdd, ↓reduceIte, Nat.reduceEqDiff, Nat.reduceAdd, Nat.reduceMul, Nat.reduceSub, Nat.reduceLeDiff, Nat.reduceLT, reduceCtorEq, if_true, eq_self, forall_const, implies_true])) <;> (try simp), by simp only [FitE, Le, LeL, List.cons_append, List.nil_append] <;> (try (simp (maxSteps := 2000000) -implicitDefEqProofs only [extO, extO2, extLe_no, or_true, Sz.o_sl, Sz.o_grows, Sz.o_kill, Sz.o_len, Sz.o_cap, Sz.o_isl, Sz.o_le, Sz.o_cells, Sz.o_one, Sz.oOk_c, Sz.oOk_o, Sz.oO_cells, Sz.oO_own, Sz.oV_s, Sz.oV_0, Sz.oO_nil, Sz.oO_iL, Sz.iL_nil, Sz.iL_snoc, List.length_append, Sz.iL_fold, Sz.iL_over, Sz.iL_all, Sz.iL_get, Sz.iL_len, Sz.iL_take, Sz.iL_drop, Sz.iL_one, Sz.iL_plain, Sz.iL_le, List.length_set, Sz.s_alt, Sz.s_alt20, Sz.s_alt2t, Sz.s_alt2f, ↓Sz.s_loopi, ↓Sz.v_pq, ↓Sz.PRE, Sz.POST, Sz.CORE, Nat.reduceDiv, Nat.reduceMod, Int.reduceLT, Int.reduceLE, Int.reduceToNat, Int.reduceAdd, ↓reduceIte, Nat.reduceEqDiff, Nat.reduceAdd, Nat.reduceMul, Nat.reduceSub, Nat.reduceLeDiff, Nat.reduceLT, reduceCtorEq, if_true, eq_self, forall_const, implies_true])) <;> (try simp only [Sz.Le, Sz.LeL, List.getElem?_cons_zero, List.getElem?_cons_succ]) <;> (try simp), keep0 hJ⟩
                | true =>
                  simp (maxSteps := 2000000) -implicitDefEqProofs only [f3, f4, pp1, pp2, k0, k1, k2, w2, Bool.true_and, Sz.s_alt, Sz.s_alt20, Sz.s_alt2t, Sz.s_alt2f, ↓Sz.s_loopi, ↓Sz.v_pq, ↓Sz.PRE, Sz.POST, Sz.CORE, Nat.reduceDiv, Nat.reduceMod, Int.reduceLT, Int.reduceLE, Int.reduceToNat, Int.reduceAdd, ↓reduceIte, Nat.reduceEqDiff, Nat.reduceAdd, Nat.reduceMul, Nat.reduceSub, Nat.reduceLeDiff, Nat.reduceLT, reduceCtorEq, if_true, eq_self, forall_const, implies_true]
                  exact ⟨[0, 1, 2, 3, 4], by simp [Sz.NdL, Sz.NdA, Sz.oO_cells, Sz.oO_own, Sz.iL_nil], by simp only [FitM, ObLe, LeL, Le, List.cons_append, List.nil_append] <;> (try (simp (maxSteps := 2000000) -implicitDefEqProofs only [extO, extO2, extLe_no, or_true, Sz.o_sl, Sz.o_grows, Sz.o_kill, Sz.o_len, Sz.o_cap, Sz.o_isl, Sz.o_le, Sz.o_cells, Sz.o_one, Sz.oOk_c, Sz.oOk_o, Sz.oO_cells, Sz.oO_own, Sz.oV_s, Sz.oV_0, Sz.oO_nil, Sz.oO_iL, Sz.iL_nil, Sz.iL_snoc, List.length_append, Sz.iL_fold, Sz.iL_over, Sz.iL_all, Sz.iL_get, Sz.iL_len, Sz.iL_take, Sz.iL_drop, Sz.iL_one, Sz.iL_plain, Sz.iL_le, List.length_set, Sz.s_alt, Sz.s_alt20, Sz.s_alt2t, Sz.s_alt2f, ↓Sz.s_loopi, ↓Sz.v_pq, ↓Sz.PRE, Sz.POST, Sz.CORE, Nat.reduceDiv, Nat.reduceMod, Int.reduceLT, Int.reduceLE, Int.reduceToNat, Int.reduceAdd, ↓reduceIte, Nat.reduceEqDiff, Nat.reduceAdd, Nat.reduceMul, Nat.reduceSub, Nat.reduceLeDiff, Nat.reduceLT, reduceCtorEq, if_true, eq_self, forall_const, implies_true])) <;> (try simp), by simp only [FitE, Le, LeL, List.cons_append, List.nil_append] <;> (try (simp (maxSteps := 2000000) -implicitDefEqProofs only [extO, extO2, extLe_no, or_true, Sz.o_sl, Sz.o_grows, Sz.o_kill, Sz.o_len, Sz.o_cap, Sz.o_isl, Sz.o_le, Sz.o_cells, Sz.o_one, Sz.oOk_c, Sz.oOk_o, Sz.oO_cells, Sz.oO_own, Sz.oV_s, Sz.oV_0, Sz.oO_nil, Sz.oO_iL, Sz.iL_nil, Sz.iL_snoc, List.length_append, Sz.iL_fold, Sz.iL_over, Sz.iL_all, Sz.iL_get, Sz.iL_len, Sz.iL_take, Sz.iL_drop, Sz.iL_one, Sz.iL_plain, Sz.iL_le, List.length_set, Sz.s_alt, Sz.s_alt20, Sz.s_alt2t, Sz.s_alt2f, ↓Sz.s_loopi, ↓Sz.v_pq, ↓Sz.PRE, Sz.POST, Sz.CORE, Nat.reduceDiv, Nat.reduceMod, Int.reduceLT, Int.reduceLE, Int.reduceToNat, Int.reduceAdd, ↓reduceIte, Nat.reduceEqDiff, Nat.reduceAdd, Nat.reduceMul, Nat.reduceSub, Nat.reduceLeDiff, Nat.reduceLT, reduceCtorEq, if_true, eq_self, forall_const, implies_true])) <;> (try simp only [Sz.Le, Sz.LeL, List.getElem?_cons_zero, List.getElem?_cons_succ]) <;> (try simp), keep0 hJ⟩
              · intro _
                have k1 : ¬ (a.b.pages.length : Int) < (a.b.pages.length : Int) := by omega
                have hzl : (a.b.pages.zip b.b.pages).length = a.b.pages.length := by simp [q3n]
                have hall : ((a.b.pages.zip b.b.pages).take a.b.pages.length).all (fun z => eqP z.1 z.2) = eqB a.b b.b := by
                  rw [← hzl, List.take_length]
                  unfold eqB eqPs
                  rw [q1, q2, q3n]
                  simp
                rw [hall]
                cases he : eqB a.b b.b with
                | true =>
                  rw [he] at hd
                  simp only [Bool.not_true, Bool.false_eq_true, if_false, List.append_nil] at hd
                  simp (maxSteps := 2000000) -implicitDefEqProofs only [k1, w1, Sz.o_sl, Sz.o_grows, Sz.o_kill, Sz.o_len, Sz.o_cap, Sz.o_isl, Sz.o_le, Sz.o_cells, Sz.o_one, Sz.oOk_c, Sz.oOk_o, Sz.oO_cells, Sz.oO_own, Sz.oV_s, Sz.oV_0, Sz.oO_nil, Sz.oO_iL, Sz.iL_nil, Sz.iL_snoc, List.length_append, Sz.iL_fold, Sz.iL_over, Sz.iL_all, Sz.iL_get, Sz.iL_len, Sz.iL_take, Sz.iL_drop, Sz.iL_one, Sz.iL_plain, Sz.iL_le, List.length_set, Bool.not_true, Bool.false_eq_true, Sz.s_alt, Sz.s_alt20, Sz.s_alt2t, Sz.s_alt2f, ↓Sz.s_loopi, ↓Sz.v_pq, ↓Sz.PRE, Sz.POST, Sz.CORE, Nat.reduceDiv, Nat.reduceMod, Int.reduceLT, Int.reduceLE, Int.reduceToNat, Int.reduceAdd, ↓reduceIte, Nat.reduceEqDiff, Nat.reduceAdd, Nat.reduceMul, Nat.reduceSub, Nat.reduceLeDiff, Nat.reduceLT, reduceCtorEq, if_true, eq_self, forall_const, implies_true]
                  rw [hd]
                  exact ⟨[0, 1, 2], by simp [Sz.NdL, Sz.NdA, Sz.oO_cells, Sz.oO_own, Sz.iL_nil], by simp only [FitM, ObLe, LeL, Le, List.cons_append, List.nil_append] <;> (try (simp (maxSteps := 2000000) -implicitDefEqProofs only [extO, extO2, extLe_no, or_true, Sz.o_sl, Sz.o_grows, Sz.o_kill, Sz.o_len, Sz.o_cap, Sz.o_isl, Sz.o_le, Sz.o_cells, Sz.o_one, Sz.oOk_c, Sz.oOk_o, Sz.oO_cells, Sz.oO_own, Sz.oV_s, Sz.oV_0, Sz.oO_nil, Sz.oO_iL, Sz.iL_nil, Sz.iL_snoc, List.length_append, Sz.iL_fold, Sz.iL_over, Sz.iL_all, Sz.iL_get, Sz.iL_len, Sz.iL_take, Sz.iL_drop, Sz.iL_one, Sz.iL_plain, Sz.iL_le, List.length_set, Sz.s_alt, Sz.s_alt20, Sz.s_alt2t, Sz.s_alt2f, ↓Sz.s_loopi, ↓Sz.v_pq, ↓Sz.PRE, Sz.POST, Sz.CORE, Nat.reduceDiv, Nat.reduceMod, Int.reduceLT, Int.reduceLE, Int.reduceToNat, Int.reduceAdd, ↓reduceIte, Nat.reduceEqDiff, Nat.reduceAdd, Nat.reduceMul, Nat.reduceSub, Nat.reduceLeDiff, Nat.reduceLT, reduceCtorEq, if_true, eq_self, forall_const, implies_true])) <;> (try simp), by simp only [FitE, Le, LeL, List.cons_append, List.nil_append] <;> (try (simp (maxSteps := 2000000) -implicitDefEqProofs only [extO, extO2, extLe_no, or_true, Sz.o_sl, Sz.o_grows, Sz.o_kill, Sz.o_len, Sz.o_cap, Sz.o_isl, Sz.o_le, Sz.o_cells, Sz.o_one, Sz.oOk_c, Sz.oOk_o, Sz.oO_cells, Sz.oO_own, Sz.oV_s, Sz.oV_0, Sz.oO_nil, Sz.oO_iL, Sz.iL_nil, Sz.iL_snoc, List.length_append, Sz.iL_fold, Sz.iL_over, Sz.iL_all, Sz.iL_get, Sz.iL_len, Sz.iL_take, Sz.iL_drop, Sz.iL_one, Sz.iL_plain, Sz.iL_le, List.length_set, Sz.s_alt, Sz.s_alt20, Sz.s_alt2t, Sz.s_alt2f, ↓Sz.s_loopi, ↓Sz.v_pq, ↓Sz.PRE, Sz.POST, Sz.CORE, Nat.reduceDiv, Nat.reduceMod, Int.reduceLT, Int.reduceLE, Int.reduceToNat, Int.reduceAdd, ↓reduceIte, Nat.reduceEqDiff, Nat.reduceAdd, Nat.reduceMul, Nat.reduceSub, Nat.reduceLeDiff, Nat.reduceLT, reduceCtorEq, if_true, eq_self, forall_const, implies_true])) <;> (try simp only [Sz.Le, Sz.LeL, List.getElem?_cons_zero, List.getElem?_cons_succ]) <;> (try simp), keep0 hJ⟩
                | false =>
                  rw [out (by rw [he]; rfl)]
                  simp (maxSteps := 2000000) -implicitDefEqProofs only [k1, w1, Sz.o_sl, Sz.o_grows, Sz.o_kill, Sz.o_len, Sz.o_cap, Sz.o_isl, Sz.o_le, Sz.o_cells, Sz.o_one, Sz.oOk_c, Sz.oOk_o, Sz.oO_cells, Sz.oO_own, Sz.oV_s, Sz.oV_0, Sz.oO_nil, Sz.oO_iL, Sz.iL_nil, Sz.iL_snoc, List.length_append, Sz.iL_fold, Sz.iL_over, Sz.iL_all, Sz.iL_get, Sz.iL_len, Sz.iL_take, Sz.iL_drop, Sz.iL_one, Sz.iL_plain, Sz.iL_le, List.length_set, Bool.not_false, Sz.s_alt, Sz.s_alt20, Sz.s_alt2t, Sz.s_alt2f, ↓Sz.s_loopi, ↓Sz.v_pq, ↓Sz.PRE, Sz.POST, Sz.CORE, Nat.reduceDiv, Nat.reduceMod, Int.reduceLT, Int.reduceLE, Int.reduceToNat, Int.reduceAdd, ↓reduceIte, Nat.reduceEqDiff, Nat.reduceAdd, Nat.reduceMul, Nat.reduceSub, Nat.reduceLeDiff, Nat.reduceLT, reduceCtorEq, if_true, eq_self, forall_const, implies_true]
                  exact ⟨⟨by unfold maxLen; omega, by omega⟩, ⟨[0, 1, 6], by simp [Sz.NdL, Sz.NdA, Sz.oO_cells, Sz.oO_own, Sz.iL_nil], by simp only [FitM, ObLe, LeL, Le, List.cons_append, List.nil_append] <;> (try (simp (maxSteps := 2000000) -implicitDefEqProofs only [extO, extO2, extLe_no, or_true, Sz.o_sl, Sz.o_grows, Sz.o_kill, Sz.o_len, Sz.o_cap, Sz.o_isl, Sz.o_le, Sz.o_cells, Sz.o_one, Sz.oOk_c, Sz.oOk_o, Sz.oO_cells, Sz.oO_own, Sz.oV_s, Sz.oV_0, Sz.oO_nil, Sz.oO_iL, Sz.iL_nil, Sz.iL_snoc, List.length_append, Sz.iL_fold, Sz.iL_over, Sz.iL_all, Sz.iL_get, Sz.iL_len, Sz.iL_take, Sz.iL_drop, Sz.iL_one, Sz.iL_plain, Sz.iL_le, List.length_set, List.length_cons, List.length_nil, Sz.s_alt, Sz.s_alt20, Sz.s_alt2t, Sz.s_alt2f, ↓Sz.s_loopi, ↓Sz.v_pq, ↓Sz.PRE, Sz.POST, Sz.CORE, Nat.reduceDiv, Nat.reduceMod, Int.reduceLT, Int.reduceLE, Int.reduceToNat, Int.reduceAdd, ↓reduceIte, Nat.reduceEqDiff, Nat.reduceAdd, Nat.reduceMul, Nat.reduceSub, Nat.reduceLeDiff, Nat.reduceLT, reduceCtorEq, if_true, eq_self, forall_const, implies_true])) <;> (try simp), by simp only [FitE, Le, LeL, List.cons_append, List.nil_append] <;> (try (simp (maxSteps := 2000000) -implicitDefEqProofs only [extO, extO2, extLe_no, or_true, Sz.o_sl, Sz.o_grows, Sz.o_kill, Sz.o_len, Sz.o_cap, Sz.o_isl, Sz.o_le, Sz.o_cells, Sz.o_one, Sz.oOk_c, Sz.oOk_o, Sz.oO_cells, Sz.oO_own, Sz.oV_s, Sz.oV_0, Sz.oO_nil, Sz.oO_iL, Sz.iL_nil, Sz.iL_snoc, List.length_append, Sz.iL_fold, Sz.iL_over, Sz.iL_all, Sz.iL_get, Sz.iL_len, Sz.iL_take, Sz.iL_drop, Sz.iL_one, Sz.iL_plain, Sz.iL_le, List.length_set, List.length_cons, List.length_nil, Sz.s_alt, Sz.s_alt20, Sz.s_alt2t, Sz.s_alt2f, ↓Sz.s_loopi, ↓Sz.v_pq, ↓Sz.PRE, Sz.POST, Sz.CORE, Nat.reduceDiv, Nat.reduceMod, Int.reduceLT, Int.reduceLE, Int.reduceToNat, Int.reduceAdd, ↓reduceIte, Nat.reduceEqDiff, Nat.reduceAdd, Nat.reduceMul, Nat.reduceSub, Nat.reduceLeDiff, Nat.reduceLT, reduceCtorEq, if_true, eq_self, forall_const, implies_true])) <;> (try simp only [Sz.Le, Sz.LeL, List.getElem?_cons_zero, List.getElem?_cons_succ]) <;> (try simp), keep0 hJ⟩⟩
      · have j1 : (x : Int) < (xs.length : Int) := by omega
        have j2 : ¬ (x : Int) < (ys.length : Int) := by omega
        have hF : difF A B x = true := by
          have e : B[x]? = none := List.getElem?_eq_none (by rw [hB, List.length_map]; omega)
          unfold difF
          rw [e]
          cases A[x]? <;> rfl
        rw [out hF]
        generalize difN A B x = L at hd hlen out ⊢
        simp (maxSteps := 2000000) -implicitDefEqProofs only [i0, i1, j1, j2, w1, Sz.o_sl, Sz.o_grows, Sz.o_kill, Sz.o_len, Sz.o_cap, Sz.o_isl, Sz.o_le, Sz.o_cells, Sz.o_one, Sz.oOk_c, Sz.oOk_o, Sz.oO_cells, Sz.oO_own, Sz.oV_s, Sz.oV_0, Sz.oO_nil, Sz.oO_iL, Sz.iL_nil, Sz.iL_snoc, List.length_append, Sz.iL_fold, Sz.iL_over, Sz.iL_all, Sz.iL_get, Sz.iL_len, Sz.iL_take, Sz.iL_drop, Sz.iL_one, Sz.iL_plain, Sz.iL_le, List.length_set, Sz.s_alt, Sz.s_alt20, Sz.s_alt2t, Sz.s_alt2f, ↓Sz.s_loopi, ↓Sz.v_pq, ↓Sz.PRE, Sz.POST, Sz.CORE, Nat.reduceDiv, Nat.reduceMod, Int.reduceLT, Int.reduceLE, Int.reduceToNat, Int.reduceAdd, ↓reduceIte, Nat.reduceEqDiff, Nat.reduceAdd, Nat.reduceMul, Nat.reduceSub, Nat.reduceLeDiff, Nat.reduceLT, reduceCtorEq, if_true, eq_self, forall_const, implies_true]
        exact ⟨⟨by unfold maxLen; omega, by omega⟩, ⟨[0, 1, 4], by simp [Sz.NdL, Sz.NdA, Sz.oO_cells, Sz.oO_own, Sz.iL_nil], by simp only [FitM, ObLe, LeL, Le, List.cons_append, List.nil_append] <;> (try (simp (maxSteps := 2000000) -implicitDefEqProofs only [extO, extO2, extLe_no, or_true, Sz.o_sl, Sz.o_grows, Sz.o_kill, Sz.o_len, Sz.o_cap, Sz.o_isl, Sz.o_le, Sz.o_cells, Sz.o_one, Sz.oOk_c, Sz.oOk_o, Sz.oO_cells, Sz.oO_own, Sz.oV_s, Sz.oV_0, Sz.oO_nil, Sz.oO_iL, Sz.iL_nil, Sz.iL_snoc, List.length_append, Sz.iL_fold, Sz.iL_over, Sz.iL_all, Sz.iL_get, Sz.iL_len, Sz.iL_take, Sz.iL_drop, Sz.iL_one, Sz.iL_plain, Sz.iL_le, List.length_set, List.length_cons, List.length_nil, Sz.s_alt, Sz.s_alt20, Sz.s_alt2t, Sz.s_alt2f, ↓Sz.s_loopi, ↓Sz.v_pq, ↓Sz.PRE, Sz.POST, Sz.CORE, Nat.reduceDiv, Nat.reduceMod, Int.reduceLT, Int.reduceLE, Int.reduceToNat, Int.reduceAdd, ↓reduceIte, Nat.reduceEqDiff, Nat.reduceAdd, Nat.reduceMul, Nat.reduceSub, Nat.reduceLeDiff, Nat.reduceLT, reduceCtorEq, if_true, eq_self, forall_const, implies_true])) <;> (try simp), by simp only [FitE, Le, LeL, List.cons_append, List.nil_append] <;> (try (simp (maxSteps := 2000000) -implicitDefEqProofs only [extO, extO2, extLe_no, or_true, Sz.o_sl, Sz.o_grows, Sz.o_kill, Sz.o_len, Sz.o_cap, Sz.o_isl, Sz.o_le, Sz.o_cells, Sz.o_one, Sz.oOk_c, Sz.oOk_o, Sz.oO_cells, Sz.oO_own, Sz.oV_s, Sz.oV_0, Sz.oO_nil, Sz.oO_iL, Sz.iL_nil, Sz.iL_snoc, List.length_append, Sz.iL_fold, Sz.iL_over, Sz.iL_all, Sz.iL_get, Sz.iL_len, Sz.iL_take, Sz.iL_drop, Sz.iL_one, Sz.iL_plain, Sz.iL_le, List.length_set, List.length_cons, List.length_nil, Sz.s_alt, Sz.s_alt20, Sz.s_alt2t, Sz.s_alt2f, ↓Sz.s_loopi, ↓Sz.v_pq, ↓Sz.PRE, Sz.POST, Sz.CORE, Nat.reduceDiv, Nat.reduceMod, Int.reduceLT, Int.reduceLE, Int.reduceToNat, Int.reduceAdd, ↓reduceIte, Nat.reduceEqDiff, Nat.reduceAdd, Nat.reduceMul, Nat.reduceSub, Nat.reduceLeDiff, Nat.reduceLT, reduceCtorEq, if_true, eq_self, forall_const, implies_true])) <;> (try simp only [Sz.Le, Sz.LeL, List.getElem?_cons_zero, List.getElem?_cons_succ]) <;> (try simp), keep0 hJ⟩⟩
    · have j1 : ¬ (x : Int) < (xs.length : Int) := by omega
      have hF : difF A B x = true := by
        have e : A[x]? = none := List.getElem?_eq_none (by rw [hA, List.length_map]; omega)
        unfold difF
        rw [e]
      rw [out hF]
      generalize difN A B x = L at hd hlen out ⊢
      simp (maxSteps := 2000000) -implicitDefEqProofs only [i0, i1, j1, w1, Sz.o_sl, Sz.o_grows, Sz.o_kill, Sz.o_len, Sz.o_cap, Sz.o_isl, Sz.o_le, Sz.o_cells, Sz.o_one, Sz.oOk_c, Sz.oOk_o, Sz.oO_cells, Sz.oO_own, Sz.oV_s, Sz.oV_0, Sz.oO_nil, Sz.oO_iL, Sz.iL_nil, Sz.iL_snoc, List.length_append, Sz.iL_fold, Sz.iL_over, Sz.iL_all, Sz.iL_get, Sz.iL_len, Sz.iL_take, Sz.iL_drop, Sz.iL_one, Sz.iL_plain, Sz.iL_le, List.length_set, Sz.s_alt, Sz.s_alt20, Sz.s_alt2t, Sz.s_alt2f, ↓Sz.s_loopi, ↓Sz.v_pq, ↓Sz.PRE, Sz.POST, Sz.CORE, Nat.reduceDiv, Nat.reduceMod, Int.reduceLT, Int.reduceLE, Int.reduceToNat, Int.reduceAdd, ↓reduceIte, Nat.reduceEqDiff, Nat.reduceAdd, Nat.reduceMul, Nat.reduceSub, Nat.reduceLeDiff, Nat.reduceLT, reduceCtorEq, if_true, eq_self, forall_const, implies_true]
      exact ⟨⟨by unfold maxLen; omega, by omega⟩, ⟨[0, 1, 4], by simp [Sz.NdL, Sz.NdA, Sz.oO_cells, Sz.oO_own, Sz.iL_nil], by simp only [FitM, ObLe, LeL, Le, List.cons_append, List.nil_append] <;> (try (simp (maxSteps := 2000000) -implicitDefEqProofs only [extO, extO2, extLe_no, or_true, Sz.o_sl, Sz.o_grows, Sz.o_kill, Sz.o_len, Sz.o_cap, Sz.o_isl, Sz.o_le, Sz.o_cells, Sz.o_one, Sz.oOk_c, Sz.oOk_o, Sz.oO_cells, Sz.oO_own, Sz.oV_s, Sz.oV_0, Sz.oO_nil, Sz.oO_iL, Sz.iL_nil, Sz.iL_snoc, List.length_append, Sz.iL_fold, Sz.iL_over, Sz.iL_all, Sz.iL_get, Sz.iL_len, Sz.iL_take, Sz.iL_drop, Sz.iL_one, Sz.iL_plain, Sz.iL_le, List.length_set, List.length_cons, List.length_nil, Sz.s_alt, Sz.s_alt20, Sz.s_alt2t, Sz.s_alt2f, ↓Sz.s_loopi, ↓Sz.v_pq, ↓Sz.PRE, Sz.POST, Sz.CORE, Nat.reduceDiv, Nat.reduceMod, Int.reduceLT, Int.reduceLE, Int.reduceToNat, Int.reduceAdd, ↓reduceIte, Nat.reduceEqDiff, Nat.reduceAdd, Nat.reduceMul, Nat.reduceSub, Nat.reduceLeDiff, Nat.reduceLT, reduceCtorEq, if_true, eq_self, forall_const, implies_true])) <;> (try simp), by simp only [FitE, Le, LeL, List.cons_append, List.nil_append] <;> (try (simp (maxSteps := 2000000) -implicitDefEqProofs only [extO, extO2, extLe_no, or_true, Sz.o_sl, Sz.o_grows, Sz.o_kill, Sz.o_len, Sz.o_cap, Sz.o_isl, Sz.o_le, Sz.o_cells, Sz.o_one, Sz.oOk_c, Sz.oOk_o, Sz.oO_cells, Sz.oO_own, Sz.oV_s, Sz.oV_0, Sz.oO_nil, Sz.oO_iL, Sz.iL_nil, Sz.iL_snoc, List.length_append, Sz.iL_fold, Sz.iL_over, Sz.iL_all, Sz.iL_get, Sz.iL_len, Sz.iL_take, Sz.iL_drop, Sz.iL_one, Sz.iL_plain, Sz.iL_le, List.length_set, List.length_cons, List.length_nil, Sz.s_alt, Sz.s_alt20, Sz.s_alt2t, Sz.s_alt2f, ↓Sz.s_loopi, ↓Sz.v_pq, ↓Sz.PRE, Sz.POST, Sz.CORE, Nat.reduceDiv, Nat.reduceMod, Int.reduceLT, Int.reduceLE, Int.reduceToNat, Int.reduceAdd, ↓reduceIte, Nat.reduceEqDiff, Nat.reduceAdd, Nat.reduceMul, Nat.reduceSub, Nat.reduceLeDiff, Nat.reduceLT, reduceCtorEq, if_true, eq_self, forall_const, implies_true])) <;> (try simp only [Sz.Le, Sz.LeL, List.getElem?_cons_zero, List.getElem?_cons_succ]) <;> (try simp), keep0 hJ⟩⟩
  · intro _
    have i1 : ¬ (N : Int) < (N : Int) := by omega
    simp (maxSteps := 2000000) -implicitDefEqProofs only [i1, ↓G5, ↓c18, Sz.s_alt, Sz.s_alt20, Sz.s_alt2t, Sz.s_alt2f, ↓Sz.s_loopi, ↓Sz.v_pq, ↓Sz.PRE, Sz.POST, Sz.CORE, Nat.reduceDiv, Nat.reduceMod, Int.reduceLT, Int.reduceLE, Int.reduceToNat, Int.reduceAdd, ↓reduceIte, Nat.reduceEqDiff, Nat.reduceAdd, Nat.reduceMul, Nat.reduceSub, Nat.reduceLeDiff, Nat.reduceLT, reduceCtorEq, if_true, eq_self, forall_const, implies_true]
    refine ⟨_, _, g1, g2, _, _, rfl, P1 _, P2 _, by omega, by omega, hp1', ?_⟩
    rw [← hA, ← hB, hdl]
    have hsd := same_dif A B
    rw [hdl] at hsd
    have hlen := difN_len A B N
    have hLN : (difN A B N).length ≤ 600 := by omega
    clear hlen hdl hmx
    generalize difN A B N = L at hsd hLN ⊢
    have hg : eqG g1 g2 = (g1.ch == g2.ch && (g1.di == g2.di && (g1.bl == g2.bl && g1.pa == g2.pa))) := rfl
    by_cases hL : L = []
    · subst hL
      simp only [intS, intM, if_true, List.append_nil]
      simp (maxSteps := 2000000) -implicitDefEqProofs only [Sz.o_sl, Sz.o_grows, Sz.o_kill, Sz.o_len, Sz.o_cap, Sz.o_isl, Sz.o_le, Sz.o_cells, Sz.o_one, Sz.oOk_c, Sz.oOk_o, Sz.oO_cells, Sz.oO_own, Sz.oV_s, Sz.oV_0, Sz.oO_nil, Sz.oO_iL, Sz.iL_nil, Sz.iL_snoc, List.length_append, Sz.iL_fold, Sz.iL_over, Sz.iL_all, Sz.iL_get, Sz.iL_len, Sz.iL_take, Sz.iL_drop, Sz.iL_one, Sz.iL_plain, Sz.iL_le, List.length_set, bne_self_eq_false, Bool.false_eq_true, List.length_nil, Sz.s_alt, Sz.s_alt20, Sz.s_alt2t, Sz.s_alt2f, ↓Sz.s_loopi, ↓Sz.v_pq, ↓Sz.PRE, Sz.POST, Sz.CORE, Nat.reduceDiv, Nat.reduceMod, Int.reduceLT, Int.reduceLE, Int.reduceToNat, Int.reduceAdd, ↓reduceIte, Nat.reduceEqDiff, Nat.reduceAdd, Nat.reduceMul, Nat.reduceSub, Nat.reduceLeDiff, Nat.reduceLT, reduceCtorEq, if_true, eq_self, forall_const, implies_true]
      refine TXi_of (TX_count (@g5 J) 0 (fun x => [(2, .ptr 0 0), (3, .ptr 1 0), (5, .v (.slice none 0 0)), (11, .v (.slice none 0 0)), (114, .v (.int .i64 0)), (115, .v (.int .i64 (x : Int)))]) (fun x => [⟨true, [.v (.int .i64 g1.ch), .v (.int .i64 g1.di), .v (.int .i64 g1.bl), .v (.int .i64 g1.pa), .v (.slice p xs.length c)]⟩, ⟨true, [.v (.int .i64 g2.ch), .v (.int .i64 g2.di), .v (.int .i64 g2.bl), .v (.int .i64 g2.pa), .v (.slice p' ys.length c')]⟩]) (fun x => True) trivial ⟨[0, 1], by simp [Sz.NdL, Sz.NdA, Sz.oO_cells, Sz.oO_own, Sz.iL_nil], by simp only [FitM, ObLe, LeL, Le, List.cons_append, List.nil_append] <;> (try (simp (maxSteps := 2000000) -implicitDefEqProofs only [Sz.s_alt, Sz.s_alt20, Sz.s_alt2t, Sz.s_alt2f, ↓Sz.s_loopi, ↓Sz.v_pq, ↓Sz.PRE, Sz.POST, Sz.CORE, Nat.reduceDiv, Nat.reduceMod, Int.reduceLT, Int.reduceLE, Int.reduceToNat, Int.reduceAdd, ↓reduceIte, Nat.reduceEqDiff, Nat.reduceAdd, Nat.reduceMul, Nat.reduceSub, Nat.reduceLeDiff, Nat.reduceLT, reduceCtorEq, if_true, eq_self, forall_const, implies_true])) <;> (try simp), by simp only [FitE, Le, LeL, List.cons_append, List.nil_append] <;> (try (simp (maxSteps := 2000000) -implicitDefEqProofs only [Sz.s_alt, Sz.s_alt20, Sz.s_alt2t, Sz.s_alt2f, ↓Sz.s_loopi, ↓Sz.v_pq, ↓Sz.PRE, Sz.POST, Sz.CORE, Nat.reduceDiv, Nat.reduceMod, Int.reduceLT, Int.reduceLE, Int.reduceToNat, Int.reduceAdd, ↓reduceIte, Nat.reduceEqDiff, Nat.reduceAdd, Nat.reduceMul, Nat.reduceSub, Nat.reduceLeDiff, Nat.reduceLT, reduceCtorEq, if_true, eq_self, forall_const, implies_true])) <;> (try simp only [Sz.Le, Sz.LeL, List.getElem?_cons_zero, List.getElem?_cons_succ]) <;> (try simp), keep0 hJ⟩ (fun x hx _ => by omega) ?_)
      intro _
      simp (maxSteps := 2000000) -implicitDefEqProofs only [↓G5, ↓c17, Sz.s_alt, Sz.s_alt20, Sz.s_alt2t, Sz.s_alt2f, ↓Sz.s_loopi, ↓Sz.v_pq, ↓Sz.PRE, Sz.POST, Sz.CORE, Nat.reduceDiv, Nat.reduceMod, Int.reduceLT, Int.reduceLE, Int.reduceToNat, Int.reduceAdd, ↓reduceIte, Nat.reduceEqDiff, Nat.reduceAdd, Nat.reduceMul, Nat.reduceSub, Nat.reduceLeDiff, Nat.reduceLT, reduceCtorEq, if_true, eq_self, forall_const, implies_true]
      refine ⟨_, _, g1, g2, _, _, rfl, P1 _, P2 _, by omega, hp1', ?_⟩
      rw [← hA, ← hB, hsd]
      simp (maxSteps := 2000000) -implicitDefEqProofs only [Sz.s_alt, Sz.s_alt20, Sz.s_alt2t, Sz.s_alt2f, ↓Sz.s_loopi, ↓Sz.v_pq, ↓Sz.PRE, Sz.POST, Sz.CORE, Nat.reduceDiv, Nat.reduceMod, Int.reduceLT, Int.reduceLE, Int.reduceToNat, Int.reduceAdd, ↓reduceIte, Nat.reduceEqDiff, Nat.reduceAdd, Nat.reduceMul, Nat.reduceSub, Nat.reduceLeDiff, Nat.reduceLT, reduceCtorEq, if_true, eq_self, forall_const, implies_true]
      rw [← hg]
      cases eqG g1 g2 <;> simpa using hk
    · have hl : L.length ≠ 0 := fun h0 => hL (List.length_eq_zero_iff.1 h0)
      rw [oV_ne hl, oO_ne hL]
      simp only [intS, intM, hL, if_false]
      simp (maxSteps := 2000000) -implicitDefEqProofs only [Sz.o_sl, Sz.o_grows, Sz.o_kill, Sz.o_len, Sz.o_cap, Sz.o_isl, Sz.o_le, Sz.o_cells, Sz.o_one, Sz.oOk_c, Sz.oOk_o, Sz.oO_cells, Sz.oO_own, Sz.oV_s, Sz.oV_0, Sz.oO_nil, Sz.oO_iL, Sz.iL_nil, Sz.iL_snoc, List.length_append, Sz.iL_fold, Sz.iL_over, Sz.iL_all, Sz.iL_get, Sz.iL_len, Sz.iL_take, Sz.iL_drop, Sz.iL_one, Sz.iL_plain, Sz.iL_le, List.length_set, bne_self_eq_false, Bool.false_eq_true, Sz.s_alt, Sz.s_alt20, Sz.s_alt2t, Sz.s_alt2f, ↓Sz.s_loopi, ↓Sz.v_pq, ↓Sz.PRE, Sz.POST, Sz.CORE, Nat.reduceDiv, Nat.reduceMod, Int.reduceLT, Int.reduceLE, Int.reduceToNat, Int.reduceAdd, ↓reduceIte, Nat.reduceEqDiff, Nat.reduceAdd, Nat.reduceMul, Nat.reduceSub, Nat.reduceLeDiff, Nat.reduceLT, reduceCtorEq, if_true, eq_self, forall_const, implies_true]
      have hli : ((L.length : Int) == 0) = false := by simp; omega
      refine TXi_of (TX_count (@g5 J) L.length (fun x => [(2, .ptr 0 0), (3, .ptr 1 0), (5, .row 2 0 L.length 1), (11, .row 3 0 L.length 1), (114, .v (.int .i64 (L.length : Int))), (115, .v (.int .i64 (x : Int)))]) (fun x => [⟨true, [.v (.int .i64 g1.ch), .v (.int .i64 g1.di), .v (.int .i64 g1.bl), .v (.int .i64 g1.pa), .v (.slice p xs.length c)]⟩, ⟨true, [.v (.int .i64 g2.ch), .v (.int .i64 g2.di), .v (.int .i64 g2.bl), .v (.int .i64 g2.pa), .v (.slice p' ys.length c')]⟩, ⟨true, iL L⟩, ⟨true, iL L⟩]) (fun x => True) trivial ⟨[0, 1, 2, 3], by simp [Sz.NdL, Sz.NdA, Sz.oO_cells, Sz.oO_own, Sz.iL_nil], by simp only [FitM, ObLe, LeL, Le, List.cons_append, List.nil_append] <;> (try (simp (maxSteps := 2000000) -implicitDefEqProofs only [Sz.iL_fold, Sz.iL_over, Sz.iL_all, Sz.iL_get, Sz.iL_len, Sz.iL_take, Sz.iL_drop, Sz.iL_one, Sz.iL_plain, Sz.iL_le, List.length_set, Sz.s_alt, Sz.s_alt20, Sz.s_alt2t, Sz.s_alt2f, ↓Sz.s_loopi, ↓Sz.v_pq, ↓Sz.PRE, Sz.POST, Sz.CORE, Nat.reduceDiv, Nat.reduceMod, Int.reduceLT, Int.reduceLE, Int.reduceToNat, Int.reduceAdd, ↓reduceIte, Nat.reduceEqDiff, Nat.reduceAdd, Nat.reduceMul, Nat.reduceSub, Nat.reduceLeDiff, Nat.reduceLT, reduceCtorEq, if_true, eq_self, forall_const, implies_true])) <;> (try simp), by simp only [FitE, Le, LeL, List.cons_append, List.nil_append] <;> (try (simp (maxSteps := 2000000) -implicitDefEqProofs only [Sz.iL_fold, Sz.iL_over, Sz.iL_all, Sz.iL_get, Sz.iL_len, Sz.iL_take, Sz.iL_drop, Sz.iL_one, Sz.iL_plain, Sz.iL_le, List.length_set, Sz.s_alt, Sz.s_alt20, Sz.s_alt2t, Sz.s_alt2f, ↓Sz.s_loopi, ↓Sz.v_pq, ↓Sz.PRE, Sz.POST, Sz.CORE, Nat.reduceDiv, Nat.reduceMod, Int.reduceLT, Int.reduceLE, Int.reduceToNat, Int.reduceAdd, ↓reduceIte, Nat.reduceEqDiff, Nat.reduceAdd, Nat.reduceMul, Nat.reduceSub, Nat.reduceLeDiff, Nat.reduceLT, reduceCtorEq, if_true, eq_self, forall_const, implies_true])) <;> (try simp only [Sz.Le, Sz.LeL, List.getElem?_cons_zero, List.getElem?_cons_succ]) <;> (try simp), keep0 hJ⟩ ?_ ?_)
      · intro x hx _
        have i0 : (0 : Int) ≤ (x : Int) := by omega
        have i2 : (x : Int) < (L.length : Int) := by omega
        have w1 : IntKind.i64.wrap ((x : Int) + 1) = (x : Int) + 1 := Sz.w_64 (by omega) (by omega)
        simp (maxSteps := 2000000) -implicitDefEqProofs only [i0, i2, w1, Sz.iL_fold, Sz.iL_over, Sz.iL_all, Sz.iL_get, Sz.iL_len, Sz.iL_take, Sz.iL_drop, Sz.iL_one, Sz.iL_plain, Sz.iL_le, List.length_set, hx, bne_self_eq_false, Bool.false_eq_true, Sz.s_alt, Sz.s_alt20, Sz.s_alt2t, Sz.s_alt2f, ↓Sz.s_loopi, ↓Sz.v_pq, ↓Sz.PRE, Sz.POST, Sz.CORE, Nat.reduceDiv, Nat.reduceMod, Int.reduceLT, Int.reduceLE, Int.reduceToNat, Int.reduceAdd, ↓reduceIte, Nat.reduceEqDiff, Nat.reduceAdd, Nat.reduceMul, Nat.reduceSub, Nat.reduceLeDiff, Nat.reduceLT, reduceCtorEq, if_true, eq_self, forall_const, implies_true]
        exact ⟨[0, 1, 2, 3], by simp [Sz.NdL, Sz.NdA, Sz.oO_cells, Sz.oO_own, Sz.iL_nil], by simp only [FitM, ObLe, LeL, Le, List.cons_append, List.nil_append] <;> (try (simp (maxSteps := 2000000) -implicitDefEqProofs only [Sz.iL_fold, Sz.iL_over, Sz.iL_all, Sz.iL_get, Sz.iL_len, Sz.iL_take, Sz.iL_drop, Sz.iL_one, Sz.iL_plain, Sz.iL_le, List.length_set, Sz.s_alt, Sz.s_alt20, Sz.s_alt2t, Sz.s_alt2f, ↓Sz.s_loopi, ↓Sz.v_pq, ↓Sz.PRE, Sz.POST, Sz.CORE, Nat.reduceDiv, Nat.reduceMod, Int.reduceLT, Int.reduceLE, Int.reduceToNat, Int.reduceAdd, ↓reduceIte, Nat.reduceEqDiff, Nat.reduceAdd, Nat.reduceMul, Nat.reduceSub, Nat.reduceLeDiff, Nat.reduceLT, reduceCtorEq, if_true, eq_self, forall_const, implies_true])) <;> (try simp), by simp only [FitE, Le, LeL, List.cons_append, List.nil_append] <;> (try (simp (maxSteps := 2000000) -implicitDefEqProofs only [Sz.iL_fold, Sz.iL_over, Sz.iL_all, Sz.iL_get, Sz.iL_len, Sz.iL_take, Sz.iL_drop, Sz.iL_one, Sz.iL_plain, Sz.iL_le, List.length_set, Sz.s_alt, Sz.s_alt20, Sz.s_alt2t, Sz.s_alt2f, ↓Sz.s_loopi, ↓Sz.v_pq, ↓Sz.PRE, Sz.POST, Sz.CORE, Nat.reduceDiv, Nat.reduceMod, Int.reduceLT, Int.reduceLE, Int.reduceToNat, Int.reduceAdd, ↓reduceIte, Nat.reduceEqDiff, Nat.reduceAdd, Nat.reduceMul, Nat.reduceSub, Nat.reduceLeDiff, Nat.reduceLT, reduceCtorEq, if_true, eq_self, forall_const, implies_true])) <;> (try simp only [Sz.Le, Sz.LeL, List.getElem?_cons_zero, List.getElem?_cons_succ]) <;> (try simp), keep0 hJ⟩
      · intro _
        have i2 : ¬ (L.length : Int) < (L.length : Int) := by omega
        simp (maxSteps := 2000000) -implicitDefEqProofs only [i2, ↓G5, ↓c17, Sz.s_alt, Sz.s_alt20, Sz.s_alt2t, Sz.s_alt2f, ↓Sz.s_loopi, ↓Sz.v_pq, ↓Sz.PRE, Sz.POST, Sz.CORE, Nat.reduceDiv, Nat.reduceMod, Int.reduceLT, Int.reduceLE, Int.reduceToNat, Int.reduceAdd, ↓reduceIte, Nat.reduceEqDiff, Nat.reduceAdd, Nat.reduceMul, Nat.reduceSub, Nat.reduceLeDiff, Nat.reduceLT, reduceCtorEq, if_true, eq_self, forall_const, implies_true]
        refine ⟨_, _, g1, g2, _, _, rfl, P1 _, P2 _, by omega, hp1', ?_⟩
        have hl0 : (L.length == 0) = false := by simpa using hl
        rw [← hA, ← hB, hsd, hl0]
        simp (maxSteps := 2000000) -implicitDefEqProofs only [hli, Bool.false_eq_true, Sz.s_alt, Sz.s_alt20, Sz.s_alt2t, Sz.s_alt2f, ↓Sz.s_loopi, ↓Sz.v_pq, ↓Sz.PRE, Sz.POST, Sz.CORE, Nat.reduceDiv, Nat.reduceMod, Int.reduceLT, Int.reduceLE, Int.reduceToNat, Int.reduceAdd, ↓reduceIte, Nat.reduceEqDiff, Nat.reduceAdd, Nat.reduceMul, Nat.reduceSub, Nat.reduceLeDiff, Nat.reduceLT, reduceCtorEq, if_true, eq_self, forall_const, implies_true]
        simpa using hk
end Go.Proofs.Ytibefgdjijmncaa
