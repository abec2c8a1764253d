/- Layer 49 (plan): the three phases' code, printed. -/
import Derived.Test.YtppndeoiifkkkaaSyK
import Derived.Test.YtppndeoiifkkkaaProg
namespace Go.Proofs.Ytppndeoiifkkkaa
open Go.RowKit Sy
set_option maxRecDepth 20000
-- almshouse/plan.gone (3 parameters)
def x100 : XC := (.seq (.tree (.seq ⟨some 4, none, (.box (.tmp 1))⟩ (.seq ⟨some 5, none, (.box (.tmp 2))⟩ (.seq ⟨some 6, none, (.alloc [(.v (.int .i64 0)), (.v (.int .i64 0)), (.v (.int .i64 0)), (.v (.int .i64 0)), (.v (.int .i64 0)), (.v (.int .i64 0)), (.v (.int .i64 0)), (.v (.string ⟨#[]⟩))])⟩ (.seq ⟨some 7, none, (.ofA (.mv (.cst (.v (.bool false)))))⟩ .done))))) (.seq (.tree (.seq ⟨some 8, none, (.ofA (.mv (.tmp 0)))⟩ (.seq ⟨some 9, none, (.build [(.v (.int .i64 0)), (.v (.int .i64 0)), (.v (.int .i64 0)), (.v (.int .i64 0)), (.v (.int .i64 0)), (.v (.int .i64 0)), (.v (.int .i64 0)), (.v (.string ⟨#[]⟩))] [(0, 1, (.cst (.v (.int .i64 3)))), (1, 1, (.tmp 8))])⟩ (.seq ⟨some 10, none, (.ofA (.faddr 0 (.tmp 4)))⟩ (.seq ⟨some 11, none, (.ofA (.load none (.tmp 10)))⟩ (.seq ⟨some 12, none, (.ofA (.mv (.tmp 11)))⟩ (.seq ⟨some 13, some (12, true), (.ofA (.load (some 2) (.tmp 5)))⟩ (.seq ⟨some 14, some (12, true), (.ofA (.load (some 5) (.tmp 4)))⟩ (.seq ⟨some 15, some (12, true), (.call (.cst (.fn 104 [])) [(.tmp 13), (.tmp 14)])⟩ (.seq ⟨some 16, some (12, true), (.ofA (.un .not (.tmp 15)))⟩ (.seq ⟨some 17, none, (.ofA (.pick (.tmp 12) (.tmp 16) (.cst (.v (.bool false)))))⟩ (.seq ⟨none, none, (.store 8 (.tmp 6) (.tmp 9))⟩ (.seq ⟨some 7, none, (.ofA (.mv (.tmp 17)))⟩ .done))))))))))))) .ret))
def r100 : List XR := [.cell 6 (some 8), .tmp 7]
theorem fn100 : FnX Try.prog 100 [] 18 x100 r100 := ⟨_, Try.func100, by kernel_rfl, by kernel_rfl, by kernel_rfl, by kernel_rfl⟩

-- almshouse/plan.sized (3 parameters)
def x101 : XC := (fun (u0 : XT) =>
 (fun (u1 : XT) =>
 (fun (u2 : XT) =>
 (fun (u3 : XT) =>
 (fun (u4 : XT) =>
 (fun (u5 : XT) =>
 (fun (u6 : XT) =>
 (fun (u7 : XT) =>
 (fun (u8 : XT) =>
 (fun (u9 : XT) =>
 (fun (u10 : XT) =>
 (fun (u11 : XT) =>
 (fun (u12 : XT) =>
 (fun (u13 : XT) =>
 (fun (u14 : XT) =>
 (fun (u15 : XT) =>
 (fun (u16 : XT) =>
 (fun (u17 : XT) =>
 (fun (u18 : XT) =>
 (fun (u19 : XT) =>
 (fun (u20 : XT) =>
 (fun (u21 : XT) =>
 (.seq (.tree (.seq ⟨some 4, none, (.box (.tmp 1))⟩ (.seq ⟨some 5, none, (.box (.tmp 2))⟩ (.seq ⟨some 6, none, (.alloc [(.v (.int .i64 0)), (.v (.int .i64 0)), (.v (.int .i64 0)), (.v (.int .i64 0)), (.v (.int .i64 0)), (.v (.int .i64 0)), (.v (.int .i64 0)), (.v (.string ⟨#[]⟩))])⟩ (.seq ⟨some 7, none, (.ofA (.mv (.cst (.v (.bool false)))))⟩ .done))))) (.seq (.tree (.take ⟨some 8, none, (.ofA (.mv (.tmp 0)))⟩ (.take ⟨some 9, none, (.ofA (.faddr 0 (.tmp 5)))⟩ (.act false [(⟨some 10, none, (.ofA (.load none (.tmp 9)))⟩, (.act false [(⟨some 11, none, (.build [(.v (.int .i64 0)), (.v (.int .i64 0)), (.v (.int .i64 0)), (.v (.int .i64 0)), (.v (.int .i64 0)), (.v (.int .i64 0)), (.v (.int .i64 0)), (.v (.string ⟨#[]⟩))] [(0, 1, (.cst (.v (.int .i64 2)))), (1, 1, (.tmp 8)), (3, 1, (.tmp 10))])⟩, (.act false [(⟨some 12, none, (.ofA (.load (some 2) (.tmp 5)))⟩, u10), (⟨some 13, none, (.ofA (.load (some 5) (.tmp 4)))⟩, u11)])), (⟨some 12, none, (.ofA (.load (some 2) (.tmp 5)))⟩, u18), (⟨some 13, none, (.ofA (.load (some 5) (.tmp 4)))⟩, u19)])), (⟨some 12, none, (.ofA (.load (some 2) (.tmp 5)))⟩, (.act false [(⟨some 10, none, (.ofA (.load none (.tmp 9)))⟩, u18), (⟨some 13, none, (.ofA (.load (some 5) (.tmp 4)))⟩, u21)])), (⟨some 13, none, (.ofA (.load (some 5) (.tmp 4)))⟩, (.act false [(⟨some 10, none, (.ofA (.load none (.tmp 9)))⟩, u19), (⟨some 12, none, (.ofA (.load (some 2) (.tmp 5)))⟩, u21)]))])))) .ret)))
 (.act false [(⟨some 10, none, (.ofA (.load none (.tmp 9)))⟩, u17), (⟨some 14, none, (.call (.cst (.fn 104 [])) [(.tmp 12), (.tmp 13)])⟩, (.take ⟨some 15, none, (.ofA (.mv (.tmp 14)))⟩ (.take ⟨some 16, some (15, true), (.ofA (.faddr 2 (.tmp 4)))⟩ (.take ⟨some 18, some (15, true), (.ofA (.faddr 0 (.tmp 5)))⟩ (.act false [(⟨some 10, none, (.ofA (.load none (.tmp 9)))⟩, u16), (⟨some 17, some (15, true), (.ofA (.load none (.tmp 16)))⟩, (.act false [(⟨some 10, none, (.ofA (.load none (.tmp 9)))⟩, u14), (⟨some 19, some (15, true), (.ofA (.load none (.tmp 18)))⟩, u20)])), (⟨some 19, some (15, true), (.ofA (.load none (.tmp 18)))⟩, (.act false [(⟨some 10, none, (.ofA (.load none (.tmp 9)))⟩, u15), (⟨some 17, some (15, true), (.ofA (.load none (.tmp 16)))⟩, u20)]))])))))]))
 (.take ⟨some 20, some (15, true), (.ofA (.bin .neq (.tmp 17) (.tmp 19)))⟩ (.take ⟨some 21, none, (.ofA (.pick (.tmp 15) (.tmp 20) (.cst (.v (.bool false)))))⟩ (.act false [(⟨some 10, none, (.ofA (.load none (.tmp 9)))⟩, u12)]))))
 (.act false [(⟨some 11, none, (.build [(.v (.int .i64 0)), (.v (.int .i64 0)), (.v (.int .i64 0)), (.v (.int .i64 0)), (.v (.int .i64 0)), (.v (.int .i64 0)), (.v (.int .i64 0)), (.v (.string ⟨#[]⟩))] [(0, 1, (.cst (.v (.int .i64 2)))), (1, 1, (.tmp 8)), (3, 1, (.tmp 10))])⟩, u11), (⟨some 12, none, (.ofA (.load (some 2) (.tmp 5)))⟩, u17)]))
 (.act false [(⟨some 11, none, (.build [(.v (.int .i64 0)), (.v (.int .i64 0)), (.v (.int .i64 0)), (.v (.int .i64 0)), (.v (.int .i64 0)), (.v (.int .i64 0)), (.v (.int .i64 0)), (.v (.string ⟨#[]⟩))] [(0, 1, (.cst (.v (.int .i64 2)))), (1, 1, (.tmp 8)), (3, 1, (.tmp 10))])⟩, u10), (⟨some 13, none, (.ofA (.load (some 5) (.tmp 4)))⟩, u17)]))
 (.act false [(⟨some 11, none, (.build [(.v (.int .i64 0)), (.v (.int .i64 0)), (.v (.int .i64 0)), (.v (.int .i64 0)), (.v (.int .i64 0)), (.v (.int .i64 0)), (.v (.int .i64 0)), (.v (.string ⟨#[]⟩))] [(0, 1, (.cst (.v (.int .i64 2)))), (1, 1, (.tmp 8)), (3, 1, (.tmp 10))])⟩, u9), (⟨some 14, none, (.call (.cst (.fn 104 [])) [(.tmp 12), (.tmp 13)])⟩, (.take ⟨some 15, none, (.ofA (.mv (.tmp 14)))⟩ (.take ⟨some 16, some (15, true), (.ofA (.faddr 2 (.tmp 4)))⟩ (.take ⟨some 18, some (15, true), (.ofA (.faddr 0 (.tmp 5)))⟩ u16))))]))
 (.act false [(⟨some 11, none, (.build [(.v (.int .i64 0)), (.v (.int .i64 0)), (.v (.int .i64 0)), (.v (.int .i64 0)), (.v (.int .i64 0)), (.v (.int .i64 0)), (.v (.int .i64 0)), (.v (.string ⟨#[]⟩))] [(0, 1, (.cst (.v (.int .i64 2)))), (1, 1, (.tmp 8)), (3, 1, (.tmp 10))])⟩, u8), (⟨some 17, some (15, true), (.ofA (.load none (.tmp 16)))⟩, u14), (⟨some 19, some (15, true), (.ofA (.load none (.tmp 18)))⟩, u15)]))
 (.act false [(⟨some 11, none, (.build [(.v (.int .i64 0)), (.v (.int .i64 0)), (.v (.int .i64 0)), (.v (.int .i64 0)), (.v (.int .i64 0)), (.v (.int .i64 0)), (.v (.int .i64 0)), (.v (.string ⟨#[]⟩))] [(0, 1, (.cst (.v (.int .i64 2)))), (1, 1, (.tmp 8)), (3, 1, (.tmp 10))])⟩, u7), (⟨some 17, some (15, true), (.ofA (.load none (.tmp 16)))⟩, u13)]))
 (.act false [(⟨some 11, none, (.build [(.v (.int .i64 0)), (.v (.int .i64 0)), (.v (.int .i64 0)), (.v (.int .i64 0)), (.v (.int .i64 0)), (.v (.int .i64 0)), (.v (.int .i64 0)), (.v (.string ⟨#[]⟩))] [(0, 1, (.cst (.v (.int .i64 2)))), (1, 1, (.tmp 8)), (3, 1, (.tmp 10))])⟩, u5), (⟨some 19, some (15, true), (.ofA (.load none (.tmp 18)))⟩, u13)]))
 (.take ⟨some 20, some (15, true), (.ofA (.bin .neq (.tmp 17) (.tmp 19)))⟩ (.take ⟨some 21, none, (.ofA (.pick (.tmp 15) (.tmp 20) (.cst (.v (.bool false)))))⟩ u12)))
 (.act false [(⟨some 11, none, (.build [(.v (.int .i64 0)), (.v (.int .i64 0)), (.v (.int .i64 0)), (.v (.int .i64 0)), (.v (.int .i64 0)), (.v (.int .i64 0)), (.v (.int .i64 0)), (.v (.string ⟨#[]⟩))] [(0, 1, (.cst (.v (.int .i64 2)))), (1, 1, (.tmp 8)), (3, 1, (.tmp 10))])⟩, u1)]))
 (.act false [(⟨some 12, none, (.ofA (.load (some 2) (.tmp 5)))⟩, u9)]))
 (.act false [(⟨some 13, none, (.ofA (.load (some 5) (.tmp 4)))⟩, u9)]))
 (.act false [(⟨some 14, none, (.call (.cst (.fn 104 [])) [(.tmp 12), (.tmp 13)])⟩, (.take ⟨some 15, none, (.ofA (.mv (.tmp 14)))⟩ (.take ⟨some 16, some (15, true), (.ofA (.faddr 2 (.tmp 4)))⟩ (.take ⟨some 18, some (15, true), (.ofA (.faddr 0 (.tmp 5)))⟩ u8))))]))
 (.act false [(⟨some 17, some (15, true), (.ofA (.load none (.tmp 16)))⟩, u5), (⟨some 19, some (15, true), (.ofA (.load none (.tmp 18)))⟩, u7), (⟨none, none, (.store 8 (.tmp 6) (.tmp 11))⟩, (.act false [(⟨some 17, some (15, true), (.ofA (.load none (.tmp 16)))⟩, u4), (⟨some 19, some (15, true), (.ofA (.load none (.tmp 18)))⟩, u6)]))]))
 (.act false [(⟨some 17, some (15, true), (.ofA (.load none (.tmp 16)))⟩, u2), (⟨none, none, (.store 8 (.tmp 6) (.tmp 11))⟩, u6)]))
 (.act false [(⟨some 17, some (15, true), (.ofA (.load none (.tmp 16)))⟩, u3)]))
 (.act false [(⟨some 19, some (15, true), (.ofA (.load none (.tmp 18)))⟩, u2), (⟨none, none, (.store 8 (.tmp 6) (.tmp 11))⟩, u4)]))
 (.act false [(⟨some 19, some (15, true), (.ofA (.load none (.tmp 18)))⟩, u3)]))
 (.take ⟨some 20, some (15, true), (.ofA (.bin .neq (.tmp 17) (.tmp 19)))⟩ (.take ⟨some 21, none, (.ofA (.pick (.tmp 15) (.tmp 20) (.cst (.v (.bool false)))))⟩ u0)))
 (.take ⟨some 20, some (15, true), (.ofA (.bin .neq (.tmp 17) (.tmp 19)))⟩ (.take ⟨some 21, none, (.ofA (.pick (.tmp 15) (.tmp 20) (.cst (.v (.bool false)))))⟩ u1)))
 (.act false [(⟨none, none, (.store 8 (.tmp 6) (.tmp 11))⟩, u0)]))
 (.take ⟨some 7, none, (.ofA (.mv (.tmp 21)))⟩ .done)
def r101 : List XR := [.cell 6 (some 8), .tmp 7]
theorem fn101 : FnX Try.prog 101 [] 22 x101 r101 := ⟨_, Try.func101, by kernel_rfl, by kernel_rfl, by kernel_rfl, by kernel_rfl⟩

-- almshouse/plan.made (3 parameters)
def x102 : XC := (fun (u0 : XT) =>
 (fun (u1 : XT) =>
 (fun (u2 : XT) =>
 (fun (u3 : XT) =>
 (fun (u4 : XT) =>
 (fun (u5 : XT) =>
 (fun (u6 : XT) =>
 (fun (u7 : XT) =>
 (fun (u8 : XT) =>
 (fun (u9 : XT) =>
 (fun (u10 : XT) =>
 (fun (u11 : XT) =>
 (fun (u12 : XT) =>
 (fun (u13 : XT) =>
 (fun (u14 : XT) =>
 (fun (u15 : XT) =>
 (fun (u16 : XT) =>
 (fun (u17 : XT) =>
 (fun (u18 : XT) =>
 (fun (u19 : XT) =>
 (fun (u20 : XT) =>
 (fun (u21 : XT) =>
 (fun (u22 : XT) =>
 (fun (u23 : XT) =>
 (fun (u24 : XT) =>
 (fun (u25 : XT) =>
 (.seq (.tree (.seq ⟨some 4, none, (.box (.tmp 1))⟩ (.seq ⟨some 5, none, (.box (.tmp 2))⟩ (.seq ⟨some 6, none, (.alloc [(.v (.int .i64 0)), (.v (.int .i64 0)), (.v (.int .i64 0)), (.v (.int .i64 0)), (.v (.int .i64 0)), (.v (.int .i64 0)), (.v (.int .i64 0)), (.v (.string ⟨#[]⟩))])⟩ (.seq ⟨some 7, none, (.ofA (.mv (.cst (.v (.bool false)))))⟩ .done))))) (.seq (.tree (.take ⟨some 8, none, (.ofA (.mv (.tmp 0)))⟩ (.take ⟨some 9, none, (.ofA (.faddr 0 (.tmp 5)))⟩ (.take ⟨some 11, none, (.ofA (.faddr 1 (.tmp 5)))⟩ (.act false [(⟨some 10, none, (.ofA (.load none (.tmp 9)))⟩, (.act false [(⟨some 12, none, (.ofA (.load none (.tmp 11)))⟩, u12), (⟨some 14, none, (.ofA (.load (some 2) (.tmp 5)))⟩, u18)])), (⟨some 12, none, (.ofA (.load none (.tmp 11)))⟩, (.act false [(⟨some 10, none, (.ofA (.load none (.tmp 9)))⟩, u12), (⟨some 14, none, (.ofA (.load (some 2) (.tmp 5)))⟩, u24)])), (⟨some 14, none, (.ofA (.load (some 2) (.tmp 5)))⟩, (.act false [(⟨some 10, none, (.ofA (.load none (.tmp 9)))⟩, u18), (⟨some 12, none, (.ofA (.load none (.tmp 11)))⟩, u24), (⟨some 15, none, (.call (.cst (.fn 98 [])) [(.tmp 14)])⟩, (.take ⟨some 16, none, (.ofA (.mv (.tmp 15)))⟩ (.act false [(⟨some 10, none, (.ofA (.load none (.tmp 9)))⟩, u17), (⟨some 12, none, (.ofA (.load none (.tmp 11)))⟩, u23), (⟨some 17, some (16, true), (.ofA (.load (some 2) (.tmp 5)))⟩, (.act false [(⟨some 10, none, (.ofA (.load none (.tmp 9)))⟩, u15), (⟨some 12, none, (.ofA (.load none (.tmp 11)))⟩, u21), (⟨some 18, some (16, true), (.ofA (.load (some 5) (.tmp 4)))⟩, u25)])), (⟨some 18, some (16, true), (.ofA (.load (some 5) (.tmp 4)))⟩, (.act false [(⟨some 10, none, (.ofA (.load none (.tmp 9)))⟩, u16), (⟨some 12, none, (.ofA (.load none (.tmp 11)))⟩, u22), (⟨some 17, some (16, true), (.ofA (.load (some 2) (.tmp 5)))⟩, u25)]))])))]))]))))) .ret)))
 (.act false [(⟨some 10, none, (.ofA (.load none (.tmp 9)))⟩, u14), (⟨some 12, none, (.ofA (.load none (.tmp 11)))⟩, u20), (⟨some 19, some (16, true), (.call (.cst (.fn 104 [])) [(.tmp 17), (.tmp 18)])⟩, (.take ⟨some 20, some (16, true), (.ofA (.un .not (.tmp 19)))⟩ (.take ⟨some 21, none, (.ofA (.pick (.tmp 16) (.tmp 20) (.cst (.v (.bool false)))))⟩ (.act false [(⟨some 10, none, (.ofA (.load none (.tmp 9)))⟩, u13), (⟨some 12, none, (.ofA (.load none (.tmp 11)))⟩, u19)]))))]))
 (.act false [(⟨some 10, none, (.ofA (.load none (.tmp 9)))⟩, u11), (⟨some 15, none, (.call (.cst (.fn 98 [])) [(.tmp 14)])⟩, (.take ⟨some 16, none, (.ofA (.mv (.tmp 15)))⟩ u23))]))
 (.act false [(⟨some 10, none, (.ofA (.load none (.tmp 9)))⟩, u10), (⟨some 17, some (16, true), (.ofA (.load (some 2) (.tmp 5)))⟩, u21), (⟨some 18, some (16, true), (.ofA (.load (some 5) (.tmp 4)))⟩, u22)]))
 (.act false [(⟨some 10, none, (.ofA (.load none (.tmp 9)))⟩, u9), (⟨some 17, some (16, true), (.ofA (.load (some 2) (.tmp 5)))⟩, u20)]))
 (.act false [(⟨some 10, none, (.ofA (.load none (.tmp 9)))⟩, u8), (⟨some 18, some (16, true), (.ofA (.load (some 5) (.tmp 4)))⟩, u20)]))
 (.act false [(⟨some 10, none, (.ofA (.load none (.tmp 9)))⟩, u7), (⟨some 19, some (16, true), (.call (.cst (.fn 104 [])) [(.tmp 17), (.tmp 18)])⟩, (.take ⟨some 20, some (16, true), (.ofA (.un .not (.tmp 19)))⟩ (.take ⟨some 21, none, (.ofA (.pick (.tmp 16) (.tmp 20) (.cst (.v (.bool false)))))⟩ u19)))]))
 (.act false [(⟨some 10, none, (.ofA (.load none (.tmp 9)))⟩, u6)]))
 (.act false [(⟨some 12, none, (.ofA (.load none (.tmp 11)))⟩, u11), (⟨some 15, none, (.call (.cst (.fn 98 [])) [(.tmp 14)])⟩, (.take ⟨some 16, none, (.ofA (.mv (.tmp 15)))⟩ u17))]))
 (.act false [(⟨some 12, none, (.ofA (.load none (.tmp 11)))⟩, u10), (⟨some 17, some (16, true), (.ofA (.load (some 2) (.tmp 5)))⟩, u15), (⟨some 18, some (16, true), (.ofA (.load (some 5) (.tmp 4)))⟩, u16)]))
 (.act false [(⟨some 12, none, (.ofA (.load none (.tmp 11)))⟩, u9), (⟨some 17, some (16, true), (.ofA (.load (some 2) (.tmp 5)))⟩, u14)]))
 (.act false [(⟨some 12, none, (.ofA (.load none (.tmp 11)))⟩, u8), (⟨some 18, some (16, true), (.ofA (.load (some 5) (.tmp 4)))⟩, u14)]))
 (.act false [(⟨some 12, none, (.ofA (.load none (.tmp 11)))⟩, u7), (⟨some 19, some (16, true), (.call (.cst (.fn 104 [])) [(.tmp 17), (.tmp 18)])⟩, (.take ⟨some 20, some (16, true), (.ofA (.un .not (.tmp 19)))⟩ (.take ⟨some 21, none, (.ofA (.pick (.tmp 16) (.tmp 20) (.cst (.v (.bool false)))))⟩ u13)))]))
 (.act false [(⟨some 12, none, (.ofA (.load none (.tmp 11)))⟩, u6)]))
 (.act false [(⟨some 13, none, (.build [(.v (.int .i64 0)), (.v (.int .i64 0)), (.v (.int .i64 0)), (.v (.int .i64 0)), (.v (.int .i64 0)), (.v (.int .i64 0)), (.v (.int .i64 0)), (.v (.string ⟨#[]⟩))] [(0, 1, (.cst (.v (.int .i64 1)))), (1, 1, (.tmp 8)), (3, 1, (.tmp 10)), (4, 1, (.tmp 12))])⟩, (.act false [(⟨some 14, none, (.ofA (.load (some 2) (.tmp 5)))⟩, u5)])), (⟨some 14, none, (.ofA (.load (some 2) (.tmp 5)))⟩, u11)]))
 (.act false [(⟨some 13, none, (.build [(.v (.int .i64 0)), (.v (.int .i64 0)), (.v (.int .i64 0)), (.v (.int .i64 0)), (.v (.int .i64 0)), (.v (.int .i64 0)), (.v (.int .i64 0)), (.v (.string ⟨#[]⟩))] [(0, 1, (.cst (.v (.int .i64 1)))), (1, 1, (.tmp 8)), (3, 1, (.tmp 10)), (4, 1, (.tmp 12))])⟩, u5), (⟨some 15, none, (.call (.cst (.fn 98 [])) [(.tmp 14)])⟩, (.take ⟨some 16, none, (.ofA (.mv (.tmp 15)))⟩ u10))]))
 (.act false [(⟨some 13, none, (.build [(.v (.int .i64 0)), (.v (.int .i64 0)), (.v (.int .i64 0)), (.v (.int .i64 0)), (.v (.int .i64 0)), (.v (.int .i64 0)), (.v (.int .i64 0)), (.v (.string ⟨#[]⟩))] [(0, 1, (.cst (.v (.int .i64 1)))), (1, 1, (.tmp 8)), (3, 1, (.tmp 10)), (4, 1, (.tmp 12))])⟩, u4), (⟨some 17, some (16, true), (.ofA (.load (some 2) (.tmp 5)))⟩, u8), (⟨some 18, some (16, true), (.ofA (.load (some 5) (.tmp 4)))⟩, u9)]))
 (.act false [(⟨some 13, none, (.build [(.v (.int .i64 0)), (.v (.int .i64 0)), (.v (.int .i64 0)), (.v (.int .i64 0)), (.v (.int .i64 0)), (.v (.int .i64 0)), (.v (.int .i64 0)), (.v (.string ⟨#[]⟩))] [(0, 1, (.cst (.v (.int .i64 1)))), (1, 1, (.tmp 8)), (3, 1, (.tmp 10)), (4, 1, (.tmp 12))])⟩, u3), (⟨some 17, some (16, true), (.ofA (.load (some 2) (.tmp 5)))⟩, u7)]))
 (.act false [(⟨some 13, none, (.build [(.v (.int .i64 0)), (.v (.int .i64 0)), (.v (.int .i64 0)), (.v (.int .i64 0)), (.v (.int .i64 0)), (.v (.int .i64 0)), (.v (.int .i64 0)), (.v (.string ⟨#[]⟩))] [(0, 1, (.cst (.v (.int .i64 1)))), (1, 1, (.tmp 8)), (3, 1, (.tmp 10)), (4, 1, (.tmp 12))])⟩, u2), (⟨some 18, some (16, true), (.ofA (.load (some 5) (.tmp 4)))⟩, u7)]))
 (.act false [(⟨some 13, none, (.build [(.v (.int .i64 0)), (.v (.int .i64 0)), (.v (.int .i64 0)), (.v (.int .i64 0)), (.v (.int .i64 0)), (.v (.int .i64 0)), (.v (.int .i64 0)), (.v (.string ⟨#[]⟩))] [(0, 1, (.cst (.v (.int .i64 1)))), (1, 1, (.tmp 8)), (3, 1, (.tmp 10)), (4, 1, (.tmp 12))])⟩, u1), (⟨some 19, some (16, true), (.call (.cst (.fn 104 [])) [(.tmp 17), (.tmp 18)])⟩, (.take ⟨some 20, some (16, true), (.ofA (.un .not (.tmp 19)))⟩ (.take ⟨some 21, none, (.ofA (.pick (.tmp 16) (.tmp 20) (.cst (.v (.bool false)))))⟩ u6)))]))
 (.act false [(⟨some 13, none, (.build [(.v (.int .i64 0)), (.v (.int .i64 0)), (.v (.int .i64 0)), (.v (.int .i64 0)), (.v (.int .i64 0)), (.v (.int .i64 0)), (.v (.int .i64 0)), (.v (.string ⟨#[]⟩))] [(0, 1, (.cst (.v (.int .i64 1)))), (1, 1, (.tmp 8)), (3, 1, (.tmp 10)), (4, 1, (.tmp 12))])⟩, u0)]))
 (.act false [(⟨some 15, none, (.call (.cst (.fn 98 [])) [(.tmp 14)])⟩, (.take ⟨some 16, none, (.ofA (.mv (.tmp 15)))⟩ u4))]))
 (.act false [(⟨some 17, some (16, true), (.ofA (.load (some 2) (.tmp 5)))⟩, u2), (⟨some 18, some (16, true), (.ofA (.load (some 5) (.tmp 4)))⟩, u3)]))
 (.act false [(⟨some 17, some (16, true), (.ofA (.load (some 2) (.tmp 5)))⟩, u1)]))
 (.act false [(⟨some 18, some (16, true), (.ofA (.load (some 5) (.tmp 4)))⟩, u1)]))
 (.act false [(⟨some 19, some (16, true), (.call (.cst (.fn 104 [])) [(.tmp 17), (.tmp 18)])⟩, (.take ⟨some 20, some (16, true), (.ofA (.un .not (.tmp 19)))⟩ (.take ⟨some 21, none, (.ofA (.pick (.tmp 16) (.tmp 20) (.cst (.v (.bool false)))))⟩ u0)))]))
 (.act false [(⟨none, none, (.store 8 (.tmp 6) (.tmp 13))⟩, (.take ⟨some 7, none, (.ofA (.mv (.tmp 21)))⟩ .done))])
def r102 : List XR := [.cell 6 (some 8), .tmp 7]
theorem fn102 : FnX Try.prog 102 [] 22 x102 r102 := ⟨_, Try.func102, by kernel_rfl, by kernel_rfl, by kernel_rfl, by kernel_rfl⟩

end Go.Proofs.Ytppndeoiifkkkaa
