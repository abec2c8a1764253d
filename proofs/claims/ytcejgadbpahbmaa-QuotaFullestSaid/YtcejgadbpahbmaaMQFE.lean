/- Walks and plain facts for the law QuotaFullest, part MQFE. No condition. -/
import Derived.Test.YtcejgadbpahbmaaMQFD
import Derived.Test.YtcejgadbpahbmaaMQFC
set_option linter.unusedVariables false
set_option linter.unusedSimpArgs false
section
namespace Go.Proofs.Ytcejgadbpahbmaa
open Go.RowKit Sz
set_option maxHeartbeats 16000000
set_option maxRecDepth 20000
namespace Qu
open Rc
-- math/bits.OnesCount64 (1 parameters)
def x117 : XC := (.seq (.tree (.seq ⟨some 2, none, (.ofA (.mv (.cst (.v (.int .i64 0)))))⟩
 .done))
 (.seq (.tree (.seq ⟨some 3, none, (.ofA (.mv (.tmp 0)))⟩
 (.seq ⟨some 4, none, (.ofA (.bin .shr (.tmp 3) (.cst (.v (.int .u64 1)))))⟩
 (.seq ⟨some 5, none, (.ofA (.bin .and (.tmp 4) (.cst (.v (.int .u64 6148914691236517205)))))⟩
 (.seq ⟨some 6, none, (.ofA (.mv (.tmp 0)))⟩
 (.seq ⟨some 7, none, (.ofA (.bin .and (.tmp 6) (.cst (.v (.int .u64 6148914691236517205)))))⟩
 (.seq ⟨some 8, none, (.ofA (.bin .add (.tmp 5) (.tmp 7)))⟩
 (.seq ⟨some 0, none, (.ofA (.mv (.tmp 8)))⟩
 .done))))))))
 (.seq (.tree (.seq ⟨some 9, none, (.ofA (.mv (.tmp 0)))⟩
 (.seq ⟨some 10, none, (.ofA (.bin .shr (.tmp 9) (.cst (.v (.int .u64 2)))))⟩
 (.seq ⟨some 11, none, (.ofA (.bin .and (.tmp 10) (.cst (.v (.int .u64 3689348814741910323)))))⟩
 (.seq ⟨some 12, none, (.ofA (.mv (.tmp 0)))⟩
 (.seq ⟨some 13, none, (.ofA (.bin .and (.tmp 12) (.cst (.v (.int .u64 3689348814741910323)))))⟩
 (.seq ⟨some 14, none, (.ofA (.bin .add (.tmp 11) (.tmp 13)))⟩
 (.seq ⟨some 0, none, (.ofA (.mv (.tmp 14)))⟩
 .done))))))))
 (.seq (.tree (.seq ⟨some 15, none, (.ofA (.mv (.tmp 0)))⟩
 (.seq ⟨some 16, none, (.ofA (.bin .shr (.tmp 15) (.cst (.v (.int .u64 4)))))⟩
 (.seq ⟨some 17, none, (.ofA (.mv (.tmp 0)))⟩
 (.seq ⟨some 18, none, (.ofA (.bin .add (.tmp 16) (.tmp 17)))⟩
 (.seq ⟨some 19, none, (.ofA (.bin .and (.tmp 18) (.cst (.v (.int .u64 1085102592571150095)))))⟩
 (.seq ⟨some 0, none, (.ofA (.mv (.tmp 19)))⟩
 .done)))))))
 (.seq (.tree (.seq ⟨some 20, none, (.ofA (.mv (.tmp 0)))⟩
 (.seq ⟨some 21, none, (.ofA (.mv (.tmp 0)))⟩
 (.seq ⟨some 22, none, (.ofA (.bin .shr (.tmp 21) (.cst (.v (.int .u64 8)))))⟩
 (.seq ⟨some 23, none, (.ofA (.bin .add (.tmp 20) (.tmp 22)))⟩
 (.seq ⟨some 0, none, (.ofA (.mv (.tmp 23)))⟩
 .done))))))
 (.seq (.tree (.seq ⟨some 24, none, (.ofA (.mv (.tmp 0)))⟩
 (.seq ⟨some 25, none, (.ofA (.mv (.tmp 0)))⟩
 (.seq ⟨some 26, none, (.ofA (.bin .shr (.tmp 25) (.cst (.v (.int .u64 16)))))⟩
 (.seq ⟨some 27, none, (.ofA (.bin .add (.tmp 24) (.tmp 26)))⟩
 (.seq ⟨some 0, none, (.ofA (.mv (.tmp 27)))⟩
 .done))))))
 (.seq (.tree (.seq ⟨some 28, none, (.ofA (.mv (.tmp 0)))⟩
 (.seq ⟨some 29, none, (.ofA (.mv (.tmp 0)))⟩
 (.seq ⟨some 30, none, (.ofA (.bin .shr (.tmp 29) (.cst (.v (.int .u64 32)))))⟩
 (.seq ⟨some 31, none, (.ofA (.bin .add (.tmp 28) (.tmp 30)))⟩
 (.seq ⟨some 0, none, (.ofA (.mv (.tmp 31)))⟩
 .done))))))
 (.seq (.tree (.seq ⟨some 32, none, (.ofA (.mv (.tmp 0)))⟩
 (.seq ⟨some 33, none, (.ofA (.conv .i64 (.tmp 32)))⟩
 (.seq ⟨some 34, none, (.ofA (.bin .and (.tmp 33) (.cst (.v (.int .i64 127)))))⟩
 (.seq ⟨some 2, none, (.ofA (.mv (.tmp 34)))⟩
 .done)))))
 .ret))))))))
def r117 : List XR := [.tmp 2]
theorem fn117 : FnX Try.prog 117 [82, 68, 97, 118] 35 x117 r117 := ⟨_, Try.func117, by kernel_rfl, by kernel_rfl, by kernel_rfl, by kernel_rfl⟩
-- math/bits.OnesCount (1 parameters)
def x95 : XC := (.seq (.tree (.seq ⟨some 2, none, (.ofA (.mv (.cst (.v (.int .i64 0)))))⟩
 .done))
 (.seq (.cond (.cst (.v (.bool false)))
 (.seq (.tree (.seq ⟨some 3, none, (.ofA (.mv (.tmp 0)))⟩
 (.seq ⟨some 4, none, (.ofA (.conv .u32 (.tmp 3)))⟩
 (.seq ⟨some 5, none, (.call (.cst (.fn 116 [])) [(.tmp 4)])⟩
 (.seq ⟨some 2, none, (.ofA (.mv (.tmp 5)))⟩
 .done)))))
 .ret)
 .skip)
 (.seq (.tree (.seq ⟨some 6, none, (.ofA (.mv (.tmp 0)))⟩
 (.seq ⟨some 7, none, (.call (.cst (.fn 117 [])) [(.tmp 6)])⟩
 (.seq ⟨some 2, none, (.ofA (.mv (.tmp 7)))⟩
 .done))))
 .ret)))
def r95 : List XR := [.tmp 2]
theorem fn95 : FnX Try.prog 95 [82, 68, 97, 118] 8 x95 r95 := ⟨_, Try.func95, by kernel_rfl, by kernel_rfl, by kernel_rfl, by kernel_rfl⟩
-- (almshouse/quota.choice).better (2 parameters)
def x63 : XC := (.seq (.tree (.seq ⟨some 2, none, (.box (.tmp 0))⟩
 (.seq ⟨some 3, none, (.box (.tmp 1))⟩
 (.seq ⟨some 4, none, (.ofA (.mv (.cst (.v (.bool false)))))⟩
 .done))))
 (.seq (.seq (.tree (.seq ⟨some 8, none, (.ofA (.faddr 1 (.tmp 2)))⟩
 (.seq ⟨some 9, none, (.ofA (.load none (.tmp 8)))⟩
 (.seq ⟨some 10, none, (.ofA (.faddr 1 (.tmp 3)))⟩
 (.seq ⟨some 11, none, (.ofA (.load none (.tmp 10)))⟩
 (.seq ⟨some 12, none, (.ofA (.bin .neq (.tmp 9) (.tmp 11)))⟩
 .done))))))
 (.cond (.tmp 12)
 (.seq (.tree (.seq ⟨some 13, none, (.ofA (.faddr 1 (.tmp 2)))⟩
 (.seq ⟨some 14, none, (.ofA (.load none (.tmp 13)))⟩
 (.seq ⟨some 15, none, (.ofA (.faddr 1 (.tmp 3)))⟩
 (.seq ⟨some 16, none, (.ofA (.load none (.tmp 15)))⟩
 (.seq ⟨some 17, none, (.ofA (.bin .gtr (.tmp 14) (.tmp 16)))⟩
 (.seq ⟨some 4, none, (.ofA (.mv (.tmp 17)))⟩
 .done)))))))
 .ret)
 .skip))
 (.seq (.seq (.tree (.take ⟨some 18, none, (.ofA (.faddr 0 (.tmp 2)))⟩
 (.take ⟨some 19, none, (.ofA (.load none (.tmp 18)))⟩
 (.take ⟨some 21, none, (.ofA (.faddr 0 (.tmp 3)))⟩
 (.take ⟨some 22, none, (.ofA (.load none (.tmp 21)))⟩
 (.act true [(⟨some 20, none, (.call (.cst (.fn 95 [])) [(.tmp 19)])⟩,
 (.act true [(⟨some 23, none, (.call (.cst (.fn 95 [])) [(.tmp 22)])⟩,
 (.take ⟨some 5, none, (.ofA (.mv (.tmp 20)))⟩
 (.take ⟨some 6, none, (.ofA (.mv (.tmp 23)))⟩
 .done)))]))]))))))
 (.seq (.tree (.seq ⟨some 24, none, (.ofA (.mv (.tmp 5)))⟩
 (.seq ⟨some 25, none, (.ofA (.mv (.tmp 6)))⟩
 (.seq ⟨some 26, none, (.ofA (.bin .neq (.tmp 24) (.tmp 25)))⟩
 .done))))
 (.cond (.tmp 26)
 (.seq (.tree (.seq ⟨some 27, none, (.ofA (.mv (.tmp 5)))⟩
 (.seq ⟨some 28, none, (.ofA (.mv (.tmp 6)))⟩
 (.seq ⟨some 29, none, (.ofA (.bin .lss (.tmp 27) (.tmp 28)))⟩
 (.seq ⟨some 4, none, (.ofA (.mv (.tmp 29)))⟩
 .done)))))
 .ret)
 .skip)))
 (.seq (.tree (.seq ⟨some 30, none, (.ofA (.faddr 0 (.tmp 2)))⟩
 (.seq ⟨some 31, none, (.ofA (.load none (.tmp 30)))⟩
 (.seq ⟨some 32, none, (.ofA (.faddr 0 (.tmp 3)))⟩
 (.seq ⟨some 33, none, (.ofA (.load none (.tmp 32)))⟩
 (.seq ⟨some 34, none, (.ofA (.bin .xor (.tmp 31) (.tmp 33)))⟩
 (.seq ⟨some 7, none, (.ofA (.mv (.tmp 34)))⟩
 .done)))))))
 (.seq (.tree (.seq ⟨some 35, none, (.ofA (.faddr 0 (.tmp 2)))⟩
 (.seq ⟨some 36, none, (.ofA (.load none (.tmp 35)))⟩
 (.seq ⟨some 37, none, (.ofA (.mv (.tmp 7)))⟩
 (.seq ⟨some 38, none, (.ofA (.mv (.tmp 7)))⟩
 (.seq ⟨some 39, none, (.ofA (.un .neg (.tmp 38)))⟩
 (.seq ⟨some 40, none, (.ofA (.bin .and (.tmp 37) (.tmp 39)))⟩
 (.seq ⟨some 41, none, (.ofA (.bin .and (.tmp 36) (.tmp 40)))⟩
 (.seq ⟨some 42, none, (.ofA (.bin .neq (.tmp 41) (.cst (.v (.int .u64 0)))))⟩
 (.seq ⟨some 4, none, (.ofA (.mv (.tmp 42)))⟩
 .done))))))))))
 .ret)))))
def r63 : List XR := [.tmp 4]
theorem fn63 : FnX Try.prog 63 [82, 68, 97, 118] 43 x63 r63 := ⟨_, Try.func63, by kernel_rfl, by kernel_rfl, by kernel_rfl, by kernel_rfl⟩
-- almshouse/quota.Fullest (3 parameters)
def x32 : XC := (.seq (.tree (.seq ⟨some 6, none, (.ofA (.mv (.cst (.v (.slice none 0 0)))))⟩
 .done))
 (.seq (.seq (.tree (.seq ⟨some 15, none, (.ofA (.mv (.tmp 0)))⟩
 (.seq ⟨some 16, none, (.ofA (.len (.tmp 15)))⟩
 (.seq ⟨some 17, none, (.ofA (.bin .gtr (.tmp 16) (.cst (.v (.int .i64 12)))))⟩
 .done))))
 (.cond (.tmp 17)
 (.seq (.tree (.seq ⟨some 6, none, (.ofA (.mv (.cst (.v (.slice none 0 0)))))⟩
 .done))
 .ret)
 .skip))
 (.seq (.tree (.seq ⟨some 18, none, (.build [(.v (.int .u64 0)), (.v (.int .i64 0))] [])⟩
 (.seq ⟨some 7, none, (.alloc [(.v (.int .u64 0)), (.v (.int .i64 0))])⟩
 (.seq ⟨none, none, (.store 2 (.tmp 7) (.tmp 18))⟩
 .done))))
 (.seq (.seq (.tree (.seq ⟨some 8, none, (.ofA (.mv (.cst (.v (.int .u64 1)))))⟩
 .done))
 (.block 0 (.loop (.seq (.seq (.tree (.seq ⟨some 19, none, (.ofA (.mv (.tmp 8)))⟩
 (.seq ⟨some 20, none, (.ofA (.mv (.tmp 0)))⟩
 (.seq ⟨some 21, none, (.ofA (.len (.tmp 20)))⟩
 (.seq ⟨some 22, none, (.ofA (.conv .u64 (.tmp 21)))⟩
 (.seq ⟨some 23, none, (.ofA (.bin .shr (.tmp 19) (.tmp 22)))⟩
 (.seq ⟨some 24, none, (.ofA (.bin .eql (.tmp 23) (.cst (.v (.int .u64 0)))))⟩
 .done)))))))
 (.cond (.tmp 24)
 .skip
 (.exit 0)))
 (.seq (.block 1 (.seq (.tree (.seq ⟨some 27, none, (.ofA (.mv (.tmp 8)))⟩
 (.seq ⟨some 28, none, (.build [(.v (.int .u64 0)), (.v (.int .i64 0))] [(0, 1, (.tmp 27))])⟩
 (.seq ⟨some 9, none, (.alloc [(.v (.int .u64 0)), (.v (.int .i64 0))])⟩
 (.seq ⟨none, none, (.store 2 (.tmp 9) (.tmp 28))⟩
 .done)))))
 (.seq (.seq (.tree (.seq ⟨some 29, none, (.ofA (.mv (.tmp 0)))⟩
 (.seq ⟨some 30, none, (.ofA (.len (.tmp 29)))⟩
 (.seq ⟨some 31, none, (.ofA (.mv (.cst (.v (.int .i64 0)))))⟩
 .done))))
 (.block 2 (.loop (.seq (.tree (.seq ⟨some 32, none, (.ofA (.bin .lss (.tmp 31) (.tmp 30)))⟩
 .done))
 (.seq (.cond (.tmp 32)
 .skip
 (.exit 2))
 (.seq (.block 3 (.seq (.tree (.seq ⟨some 33, none, (.ofA (.mv (.tmp 31)))⟩
 (.seq ⟨some 34, none, (.ofA (.isl 2 (.tmp 29) (.tmp 31)))⟩
 (.seq ⟨some 35, none, (.ofA (.load (some 2) (.tmp 34)))⟩
 (.seq ⟨some 11, none, (.alloc [(.v (.int .i64 0)), (.v (.int .i64 0))])⟩
 (.seq ⟨some 10, none, (.ofA (.mv (.tmp 33)))⟩
 (.seq ⟨none, none, (.store 2 (.tmp 11) (.tmp 35))⟩
 .done)))))))
 (.seq (.seq (.tree (.seq ⟨some 36, none, (.ofA (.mv (.tmp 8)))⟩
 (.seq ⟨some 37, none, (.ofA (.mv (.tmp 10)))⟩
 (.seq ⟨some 38, none, (.ofA (.conv .u64 (.tmp 37)))⟩
 (.seq ⟨some 39, none, (.ofA (.bin .shr (.tmp 36) (.tmp 38)))⟩
 (.seq ⟨some 40, none, (.ofA (.bin .and (.tmp 39) (.cst (.v (.int .u64 1)))))⟩
 (.seq ⟨some 41, none, (.ofA (.bin .eql (.tmp 40) (.cst (.v (.int .u64 0)))))⟩
 .done)))))))
 (.cond (.tmp 41)
 (.exit 3)
 .skip))
 (.seq (.tree (.seq ⟨some 42, none, (.ofA (.load (some 2) (.tmp 11)))⟩
 (.seq ⟨some 43, none, (.ofA (.mv (.tmp 2)))⟩
 (.seq ⟨some 44, none, (.call (.cst (.fn 62 [])) [(.tmp 42), (.tmp 43)])⟩
 (.seq ⟨some 12, none, (.ofA (.mv (.tmp 44)))⟩
 .done)))))
 (.seq (.seq (.tree (.seq ⟨some 45, none, (.ofA (.mv (.tmp 12)))⟩
 (.seq ⟨some 46, none, (.ofA (.bin .eql (.tmp 45) (.cst (.v (.int .i64 0)))))⟩
 .done)))
 (.cond (.tmp 46)
 (.seq (.tree (.seq ⟨some 47, none, (.ofA (.faddr 1 (.tmp 9)))⟩
 (.seq ⟨none, none, (.store 1 (.tmp 47) (.cst (.v (.int .i64 65))))⟩
 .done)))
 (.exit 2))
 .skip))
 (.tree (.seq ⟨some 48, none, (.ofA (.faddr 1 (.tmp 9)))⟩
 (.seq ⟨some 49, none, (.ofA (.load none (.tmp 48)))⟩
 (.seq ⟨some 50, none, (.ofA (.mv (.tmp 12)))⟩
 (.seq ⟨some 51, none, (.ofA (.bin .add (.tmp 49) (.tmp 50)))⟩
 (.seq ⟨some 52, none, (.ofA (.faddr 1 (.tmp 9)))⟩
 (.seq ⟨none, none, (.store 1 (.tmp 52) (.tmp 51))⟩
 .done))))))))))))
 (.tree (.seq ⟨some 53, none, (.ofA (.bin .add (.tmp 31) (.cst (.v (.int .i64 1)))))⟩
 (.seq ⟨some 31, none, (.ofA (.mv (.tmp 53)))⟩
 .done)))))))))
 (.seq (.tree (.seq ⟨some 54, none, (.ofA (.faddr 1 (.tmp 9)))⟩
 (.seq ⟨some 55, none, (.ofA (.load none (.tmp 54)))⟩
 (.seq ⟨some 56, none, (.ofA (.mv (.tmp 1)))⟩
 (.seq ⟨some 57, none, (.ofA (.mx false (.tmp 56) [(.cst (.v (.int .i64 64)))]))⟩
 (.seq ⟨some 58, none, (.ofA (.bin .leq (.tmp 55) (.tmp 57)))⟩
 (.seq ⟨some 59, none, (.ofA (.mv (.tmp 58)))⟩
 (.seq ⟨some 60, some (59, true), (.ofA (.load (some 2) (.tmp 9)))⟩
 (.seq ⟨some 61, some (59, true), (.ofA (.load (some 2) (.tmp 7)))⟩
 (.seq ⟨some 62, some (59, true), (.call (.cst (.fn 63 [])) [(.tmp 60), (.tmp 61)])⟩
 (.seq ⟨some 63, none, (.ofA (.pick (.tmp 59) (.tmp 62) (.cst (.v (.bool false)))))⟩
 .done)))))))))))
 (.cond (.tmp 63)
 (.tree (.seq ⟨some 64, none, (.ofA (.load (some 2) (.tmp 9)))⟩
 (.seq ⟨none, none, (.store 2 (.tmp 7) (.tmp 64))⟩
 .done)))
 .skip)))))
 (.tree (.seq ⟨some 25, none, (.ofA (.mv (.tmp 8)))⟩
 (.seq ⟨some 26, none, (.ofA (.bin .add (.tmp 25) (.cst (.v (.int .u64 1)))))⟩
 (.seq ⟨some 8, none, (.ofA (.mv (.tmp 26)))⟩
 .done)))))))))
 (.seq (.tree (.seq ⟨some 13, none, (.ofA (.mv (.cst (.v (.slice none 0 0)))))⟩
 .done))
 (.seq (.seq (.tree (.seq ⟨some 65, none, (.ofA (.mv (.tmp 0)))⟩
 (.seq ⟨some 66, none, (.ofA (.len (.tmp 65)))⟩
 (.seq ⟨some 67, none, (.ofA (.mv (.cst (.v (.int .i64 0)))))⟩
 .done))))
 (.block 4 (.loop (.seq (.tree (.seq ⟨some 68, none, (.ofA (.bin .lss (.tmp 67) (.tmp 66)))⟩
 .done))
 (.seq (.cond (.tmp 68)
 .skip
 (.exit 4))
 (.seq (.block 5 (.seq (.tree (.seq ⟨some 69, none, (.ofA (.mv (.tmp 67)))⟩
 (.seq ⟨some 14, none, (.ofA (.mv (.tmp 69)))⟩
 .done)))
 (.seq (.tree (.seq ⟨some 70, none, (.ofA (.faddr 0 (.tmp 7)))⟩
 (.seq ⟨some 71, none, (.ofA (.load none (.tmp 70)))⟩
 (.seq ⟨some 72, none, (.ofA (.mv (.tmp 14)))⟩
 (.seq ⟨some 73, none, (.ofA (.conv .u64 (.tmp 72)))⟩
 (.seq ⟨some 74, none, (.ofA (.bin .shr (.tmp 71) (.tmp 73)))⟩
 (.seq ⟨some 75, none, (.ofA (.bin .and (.tmp 74) (.cst (.v (.int .u64 1)))))⟩
 (.seq ⟨some 76, none, (.ofA (.bin .eql (.tmp 75) (.cst (.v (.int .u64 1)))))⟩
 .done))))))))
 (.cond (.tmp 76)
 (.tree (.seq ⟨some 77, none, (.ofA (.mv (.tmp 13)))⟩
 (.seq ⟨some 78, none, (.ofA (.mv (.tmp 14)))⟩
 (.seq ⟨some 79, none, (.buildSl 1 1 [(.v (.int .i64 0))] [(0, 1, (.tmp 78))])⟩
 (.seq ⟨some 80, none, (.app 1 8 (.tmp 77) (.tmp 79))⟩
 (.seq ⟨some 13, none, (.ofA (.mv (.tmp 80)))⟩
 .done))))))
 .skip))))
 (.tree (.seq ⟨some 81, none, (.ofA (.bin .add (.tmp 67) (.cst (.v (.int .i64 1)))))⟩
 (.seq ⟨some 67, none, (.ofA (.mv (.tmp 81)))⟩
 .done)))))))))
 (.seq (.tree (.seq ⟨some 82, none, (.ofA (.mv (.tmp 13)))⟩
 (.seq ⟨some 6, none, (.ofA (.mv (.tmp 82)))⟩
 .done)))
 .ret)))))))
def r32 : List XR := [.tmp 6]
theorem fn32 : FnX Try.prog 32 [82, 68, 97, 118] 83 x32 r32 := ⟨_, Try.func32, by kernel_rfl, by kernel_rfl, by kernel_rfl, by kernel_rfl⟩
def andU (a b : Int) : Int := IntKind.u64.wrap ((BitVec.ofInt IntKind.u64.bits a &&& BitVec.ofInt IntKind.u64.bits b).toNat : Nat)
def andI (a b : Int) : Int := IntKind.i64.wrap ((BitVec.ofInt IntKind.i64.bits a &&& BitVec.ofInt IntKind.i64.bits b).toNat : Nat)
def xorU (a b : Int) : Int := IntKind.u64.wrap ((BitVec.ofInt IntKind.u64.bits a ^^^ BitVec.ofInt IntKind.u64.bits b).toNat : Nat)
def shU (a : Int) (k : Nat) : Int := a.fdiv (2 ^ min k IntKind.u64.bits)
def p1 (x : Int) : Int := IntKind.u64.wrap (andU (shU x 1) 6148914691236517205 + andU x 6148914691236517205)
def p2 (x : Int) : Int := IntKind.u64.wrap (andU (shU x 2) 3689348814741910323 + andU x 3689348814741910323)
def p3 (x : Int) : Int := andU (IntKind.u64.wrap (shU x 4 + x)) 1085102592571150095
def p4 (x : Int) : Int := IntKind.u64.wrap (x + shU x 8)
def p5 (x : Int) : Int := IntKind.u64.wrap (x + shU x 16)
def p6 (x : Int) : Int := IntKind.u64.wrap (x + shU x 32)
def popE (x : Int) : Int := andI (IntKind.i64.wrap (p6 (p5 (p4 (p3 (p2 (p1 x))))))) 127
theorem f_andU (a b : Int) : IntKind.u64.wrap ((BitVec.ofInt IntKind.u64.bits a &&& BitVec.ofInt IntKind.u64.bits b).toNat : Nat) = andU a b := rfl
theorem f_xorU (a b : Int) : IntKind.u64.wrap ((BitVec.ofInt IntKind.u64.bits a ^^^ BitVec.ofInt IntKind.u64.bits b).toNat : Nat) = xorU a b := rfl
theorem f_shU (a : Int) (k : Nat) : a.fdiv (2 ^ min k IntKind.u64.bits) = shU a k := rfl
theorem f_p1 (x : Int) : IntKind.u64.wrap (andU (shU x 1) 6148914691236517205 + andU x 6148914691236517205) = p1 x := rfl
theorem f_p2 (x : Int) : IntKind.u64.wrap (andU (shU x 2) 3689348814741910323 + andU x 3689348814741910323) = p2 x := rfl
theorem f_p3 (x : Int) : andU (IntKind.u64.wrap (shU x 4 + x)) 1085102592571150095 = p3 x := rfl
theorem f_p4 (x : Int) : IntKind.u64.wrap (x + shU x 8) = p4 x := rfl
theorem f_p5 (x : Int) : IntKind.u64.wrap (x + shU x 16) = p5 x := rfl
theorem f_p6 (x : Int) : IntKind.u64.wrap (x + shU x 32) = p6 x := rfl
def c117 [Inp] : Trans := fun args m k => match args with
  | [.v (.int .u64 x)] => k (.v (.int .i64 (popE x))) m
  | _ => False
def c95 [Inp] : Trans := fun args m k => match args with
  | [.v (.int .u64 x)] => k (.v (.int .i64 (popE x))) m
  | _ => False
theorem a117 [Inp] {x : Int} {m : Mem} {k : SV → Mem → Prop} : c117 [.v (.int .u64 x)] m k = k (.v (.int .i64 (popE x))) m := rfl
theorem a95 [Inp] {x : Int} {m : Mem} {k : SV → Mem → Prop} : c95 [.v (.int .u64 x)] m k = k (.v (.int .i64 (popE x))) m := rfl
theorem c117_ok [Inp] : Contract Try.prog 117 true c117 := by
  refine .plainArgs fn117 (g0 _) _ fun args m k h => ?_
  unfold c117 at h
  split at h
  · rename_i x
    refine ⟨rfl, by simp, ?_⟩
    simp (maxSteps := 2000000) -implicitDefEqProofs only [↓x117, ↓r117, f_andU, f_shU, f_p1, f_p2, f_p3, f_p4, f_p5, f_p6, s_alt, s_alt20, s_alt2t, s_alt2f, ↓s_loopi, ↓v_pq, ↓PRE, POST, CORE, Nat.reduceDiv, Nat.reduceMod, Int.reduceLT, Int.reduceLE, Int.reduceToNat, Int.reduceAdd, ↓reduceIte, Nat.reduceEqDiff, Nat.reduceAdd, Nat.reduceMul, Nat.reduceSub, Nat.reduceLeDiff, Nat.reduceLT, reduceCtorEq, if_true, eq_self, forall_const, implies_true]
    exact h
  · exact h.elim
theorem c95_ok [Inp] : Contract Try.prog 95 true c95 := by
  refine .plainArgs fn95 (G := [⟨117, true, c117⟩]) (GOk.cons c117_ok (g0 _)) _ fun args m k h => ?_
  unfold c95 at h
  split at h
  · rename_i x
    refine ⟨rfl, by simp, ?_⟩
    simp (maxSteps := 2000000) -implicitDefEqProofs only [↓x95, ↓r95, ↓a117, s_alt, s_alt20, s_alt2t, s_alt2f, ↓s_loopi, ↓v_pq, ↓PRE, POST, CORE, Nat.reduceDiv, Nat.reduceMod, Int.reduceLT, Int.reduceLE, Int.reduceToNat, Int.reduceAdd, ↓reduceIte, Nat.reduceEqDiff, Nat.reduceAdd, Nat.reduceMul, Nat.reduceSub, Nat.reduceLeDiff, Nat.reduceLT, reduceCtorEq, if_true, eq_self, forall_const, implies_true]
    exact h
  · exact h.elim
def betF (x c y d : Int) : Bool := if c ≠ d then decide (d < c) else if popE x ≠ popE y then decide (popE x < popE y) else andU x (andU (xorU x y) (IntKind.u64.wrap (0 - xorU x y))) != 0
def c63 [Inp] : Trans := fun args m k => match args with
  | [.agg [.v (.int .u64 x), .v (.int .i64 c)], .agg [.v (.int .u64 y), .v (.int .i64 d)]] => k (.v (.bool (betF x c y d))) m
  | _ => False
theorem a63 [Inp] {x c y d : Int} {m : Mem} {k : SV → Mem → Prop} : c63 [.agg [.v (.int .u64 x), .v (.int .i64 c)], .agg [.v (.int .u64 y), .v (.int .i64 d)]] m k = k (.v (.bool (betF x c y d))) m := rfl
theorem c63_ok [Inp] : Contract Try.prog 63 true c63 := by
  refine .plainArgs fn63 (G := [⟨95, true, c95⟩]) (GOk.cons c95_ok (g0 _)) _ fun args m k h => ?_
  unfold c63 at h
  split at h
  · rename_i x c y d
    refine ⟨rfl, by simp, ?_⟩
    unfold betF at h
    by_cases h1 : c = d
    · have e1 : (c != d) = false := by simp [h1]
      rw [if_neg (fun q => q h1)] at h
      by_cases h2 : popE x = popE y
      · have e2 : (popE x != popE y) = false := by simp [h2]
        rw [if_neg (fun q => q h2)] at h
        simp (maxSteps := 2000000) -implicitDefEqProofs only [↓x63, ↓r63, ↓a95, e1, e2, f_andU, f_xorU, s_alt, s_alt20, s_alt2t, s_alt2f, ↓s_loopi, ↓v_pq, ↓PRE, POST, CORE, Nat.reduceDiv, Nat.reduceMod, Int.reduceLT, Int.reduceLE, Int.reduceToNat, Int.reduceAdd, ↓reduceIte, Nat.reduceEqDiff, Nat.reduceAdd, Nat.reduceMul, Nat.reduceSub, Nat.reduceLeDiff, Nat.reduceLT, reduceCtorEq, if_true, eq_self, forall_const, implies_true]
        exact h
      · have e2 : (popE x != popE y) = true := by simpa using h2
        rw [if_pos h2] at h
        simp (maxSteps := 2000000) -implicitDefEqProofs only [↓x63, ↓r63, ↓a95, e1, e2, s_alt, s_alt20, s_alt2t, s_alt2f, ↓s_loopi, ↓v_pq, ↓PRE, POST, CORE, Nat.reduceDiv, Nat.reduceMod, Int.reduceLT, Int.reduceLE, Int.reduceToNat, Int.reduceAdd, ↓reduceIte, Nat.reduceEqDiff, Nat.reduceAdd, Nat.reduceMul, Nat.reduceSub, Nat.reduceLeDiff, Nat.reduceLT, reduceCtorEq, if_true, eq_self, forall_const, implies_true]
        by_cases h3 : popE x < popE y
        · simp (maxSteps := 2000000) -implicitDefEqProofs only [h3, s_alt, s_alt20, s_alt2t, s_alt2f, ↓s_loopi, ↓v_pq, ↓PRE, POST, CORE, Nat.reduceDiv, Nat.reduceMod, Int.reduceLT, Int.reduceLE, Int.reduceToNat, Int.reduceAdd, ↓reduceIte, Nat.reduceEqDiff, Nat.reduceAdd, Nat.reduceMul, Nat.reduceSub, Nat.reduceLeDiff, Nat.reduceLT, reduceCtorEq, if_true, eq_self, forall_const, implies_true]
          rw [decide_eq_true h3] at h
          exact h
        · simp (maxSteps := 2000000) -implicitDefEqProofs only [h3, s_alt, s_alt20, s_alt2t, s_alt2f, ↓s_loopi, ↓v_pq, ↓PRE, POST, CORE, Nat.reduceDiv, Nat.reduceMod, Int.reduceLT, Int.reduceLE, Int.reduceToNat, Int.reduceAdd, ↓reduceIte, Nat.reduceEqDiff, Nat.reduceAdd, Nat.reduceMul, Nat.reduceSub, Nat.reduceLeDiff, Nat.reduceLT, reduceCtorEq, if_true, eq_self, forall_const, implies_true]
          rw [decide_eq_false h3] at h
          exact h
    · have e1 : (c != d) = true := by simpa using h1
      rw [if_pos h1] at h
      simp (maxSteps := 2000000) -implicitDefEqProofs only [↓x63, ↓r63, ↓a95, e1, gt_iff_lt, s_alt, s_alt20, s_alt2t, s_alt2f, ↓s_loopi, ↓v_pq, ↓PRE, POST, CORE, Nat.reduceDiv, Nat.reduceMod, Int.reduceLT, Int.reduceLE, Int.reduceToNat, Int.reduceAdd, ↓reduceIte, Nat.reduceEqDiff, Nat.reduceAdd, Nat.reduceMul, Nat.reduceSub, Nat.reduceLeDiff, Nat.reduceLT, reduceCtorEq, if_true, eq_self, forall_const, implies_true]
      by_cases h3 : d < c
      · simp (maxSteps := 2000000) -implicitDefEqProofs only [h3, s_alt, s_alt20, s_alt2t, s_alt2f, ↓s_loopi, ↓v_pq, ↓PRE, POST, CORE, Nat.reduceDiv, Nat.reduceMod, Int.reduceLT, Int.reduceLE, Int.reduceToNat, Int.reduceAdd, ↓reduceIte, Nat.reduceEqDiff, Nat.reduceAdd, Nat.reduceMul, Nat.reduceSub, Nat.reduceLeDiff, Nat.reduceLT, reduceCtorEq, if_true, eq_self, forall_const, implies_true]
        rw [decide_eq_true h3] at h
        exact h
      · simp (maxSteps := 2000000) -implicitDefEqProofs only [h3, s_alt, s_alt20, s_alt2t, s_alt2f, ↓s_loopi, ↓v_pq, ↓PRE, POST, CORE, Nat.reduceDiv, Nat.reduceMod, Int.reduceLT, Int.reduceLE, Int.reduceToNat, Int.reduceAdd, ↓reduceIte, Nat.reduceEqDiff, Nat.reduceAdd, Nat.reduceMul, Nat.reduceSub, Nat.reduceLeDiff, Nat.reduceLT, reduceCtorEq, if_true, eq_self, forall_const, implies_true]
        rw [decide_eq_false h3] at h
        exact h
  · exact h.elim
def cN (l : List Ra.Rg) (n : Int) (i : Nat) : Int := match l[i]? with | some r => totF r.fr r.to n | none => 0
theorem cN_at {l : List Ra.Rg} {n : Int} {i : Nat} {r : Ra.Rg} (h : l[i]? = some r) : cN l n i = totF r.fr r.to n := by unfold cN; rw [h]
theorem cN_bd (l : List Ra.Rg) (n : Int) (i : Nat) : 0 ≤ cN l n i ∧ cN l n i ≤ 74 := by
  unfold cN
  split
  · exact totF_bd _ _ _
  · omega
def sumB (c : Nat → Int) (m : Nat) : Nat → Int
  | 0 => 0
  | i + 1 => if m.testBit i = true then sumB c m i + c i else sumB c m i
def badB (c : Nat → Int) (m : Nat) : Nat → Bool
  | 0 => false
  | i + 1 => badB c m i || (m.testBit i && c i == 0)
theorem sumB_bd {c : Nat → Int} (h : ∀ i, 0 ≤ c i ∧ c i ≤ 74) (m : Nat) : ∀ i, 0 ≤ sumB c m i ∧ sumB c m i ≤ 74 * i
  | 0 => by simp [sumB]
  | i + 1 => by
    have h1 := sumB_bd h m i
    have h2 := h i
    unfold sumB
    split <;> omega
theorem badB_mono {c : Nat → Int} {m : Nat} : ∀ {n i : Nat}, i ≤ n → badB c m i = true → badB c m n = true
  | 0, i, h, hb => by
    obtain rfl : i = 0 := by omega
    exact hb
  | n + 1, i, h, hb => by
    rcases Nat.lt_or_ge n i with h1 | h1
    · obtain rfl : i = n + 1 := by omega
      exact hb
    · rw [badB, badB_mono h1 hb, Bool.true_or]
def costM (c : Nat → Int) (n m : Nat) : Int := if badB c m n = true then 65 else sumB c m n
def bestM (c : Nat → Int) (n : Nat) (R : Int) : Nat → Nat × Int
  | 0 => (0, 0)
  | x + 1 => if costM c n (x + 1) ≤ R ∧ betF ((x + 1 : Nat) : Int) (costM c n (x + 1)) ((bestM c n R x).1 : Int) (bestM c n R x).2 = true then (x + 1, costM c n (x + 1)) else bestM c n R x
def bitsL (m : Nat) (n : Nat) : List Int := ((List.range n).filter fun i => m.testBit i).map Int.ofNat
theorem bitsL_succ (m n : Nat) : bitsL m (n + 1) = if m.testBit n = true then bitsL m n ++ [(n : Int)] else bitsL m n := by
  unfold bitsL
  rw [List.range_succ, List.filter_append, List.map_append]
  cases h : m.testBit n <;> simp [h]
theorem bitsL_len (m n : Nat) : (bitsL m n).length ≤ n := by
  unfold bitsL
  rw [List.length_map]
  have := List.length_filter_le (fun i => m.testBit i) (List.range n)
  simpa using this
theorem bestM_le (c : Nat → Int) (n : Nat) (R : Int) : ∀ x, (bestM c n R x).1 ≤ x
  | 0 => Nat.le_refl _
  | x + 1 => by
    unfold bestM
    split
    · exact Nat.le_refl _
    · exact Nat.le_succ_of_le (bestM_le c n R x)
def fullF (l : List Ra.Rg) (b n : Int) : List Int := if 12 < l.length then [] else bitsL (bestM (cN l n) l.length (room b) (2 ^ l.length - 1)).1 l.length
theorem uw {x : Int} (h0 : 0 ≤ x) (h1 : x ≤ 18446744073709551615) : IntKind.u64.wrap x = x := by simp [IntKind.wrap, IntKind.bits, IntKind.signed]; omega
theorem shU_nat (m k : Nat) (hk : k ≤ 64) : shU (m : Int) k = ((m / 2 ^ k : Nat) : Int) := by
  unfold shU
  have : min k IntKind.u64.bits = k := by simp [IntKind.bits]; omega
  rw [this, Int.fdiv_eq_ediv_of_nonneg _ (by exact_mod_cast Nat.zero_le _)]
  push_cast
  rfl
theorem andU_one (a : Nat) (h : a < 18446744073709551616) : andU (a : Int) 1 = ((a % 2 : Nat) : Int) := by
  unfold andU
  have e : (BitVec.ofInt IntKind.u64.bits (a : Int) &&& BitVec.ofInt IntKind.u64.bits 1).toNat = a % 2 := by
    show (BitVec.ofInt 64 (a : Int) &&& BitVec.ofInt 64 1).toNat = a % 2
    rw [BitVec.toNat_and]
    have h1 : (BitVec.ofInt 64 (a : Int)).toNat = a := by
      rw [BitVec.ofInt_natCast, BitVec.toNat_ofNat]; omega
    have h2 : (BitVec.ofInt 64 1).toNat = 1 := rfl
    rw [h1, h2, Nat.and_one_is_mod]
  rw [e]
  exact uw (by omega) (by omega)
theorem bit0 {m i : Nat} (hi : i ≤ 64) (hm : m < 18446744073709551616) (h : m.testBit i = false) : andU (shU (m : Int) i) 1 = 0 := by
  rw [shU_nat m i hi, andU_one _ (Nat.lt_of_le_of_lt (Nat.div_le_self _ _) hm)]
  rw [Nat.testBit_eq_decide_div_mod_eq, decide_eq_false_iff_not] at h
  omega
theorem bit1 {m i : Nat} (hi : i ≤ 64) (hm : m < 18446744073709551616) (h : m.testBit i = true) : andU (shU (m : Int) i) 1 = 1 := by
  rw [shU_nat m i hi, andU_one _ (Nat.lt_of_le_of_lt (Nat.div_le_self _ _) hm)]
  rw [Nat.testBit_eq_decide_div_mod_eq, decide_eq_true_eq] at h
  omega
def c32 [Inp] : Trans := fun args m k => ∃ (s : SV) (l : List Ra.Rg) (b n : Int), args = [s, .v (.int .i64 b), .v (.int .i64 n)] ∧ rdG m s = some l ∧ l.length ≤ 1000 ∧ k (rS m.length 1 (fullF l b n).length) (m ++ rM (iL (fullF l b n)))
def G32 [Inp] : List CEntry := [⟨62, true, c62⟩, ⟨63, true, c63⟩]
theorem s32 [Inp] : GOk Try.prog G32 := GOk.cons c62_ok (GOk.cons c63_ok (g0 _))
theorem c32_ok [I : Inp] : Contract Try.prog 32 true c32 := by
  refine .readF3 fn32 (G := fun J => @G32 J) (fun J => @s32 J) _ fun args m k h => ?_
  obtain ⟨s, l, b, n, rfl, hl, hmax, hk⟩ := h
  refine ⟨by simp, fun J hJ us hus => ?_⟩
  obtain ⟨u, t1, rfl, hu1, u2, t2, rfl, hu2, u3, t3, rfl, hu3, rfl⟩ := hus
  obtain rfl := hu2.1 _ rfl
  obtain rfl := hu3.1 _ rfl
  obtain ⟨p, cc, rfl, hin⟩ := rdG_knows hl hu1
  rw [List.map_cons, List.map_cons, List.map_cons, List.map_nil, of_sl, of_int, of_int]
  unfold fullF at hk
  by_cases h12 : (12 : Int) < (l.length : Int)
  · rw [if_pos (by omega)] at hk
    simp (maxSteps := 2000000) -implicitDefEqProofs only [↓x32, ↓r32, gt_iff_lt, h12, s_alt, s_alt20, s_alt2t, s_alt2f, ↓s_loopi, ↓v_pq, ↓PRE, POST, CORE, Nat.reduceDiv, Nat.reduceMod, Int.reduceLT, Int.reduceLE, Int.reduceToNat, Int.reduceAdd, ↓reduceIte, Nat.reduceEqDiff, Nat.reduceAdd, Nat.reduceMul, Nat.reduceSub, Nat.reduceLeDiff, Nat.reduceLT, reduceCtorEq, if_true, eq_self, forall_const, implies_true]
    refine ⟨[], .v (.slice none 0 0), [], by simp [NdL], trivial, by simp, by simp only [Le], ?_⟩
    rw [List.length_nil, rS_0, iL_nil, rM_0, List.append_nil] at hk
    simpa [SV.up] using hk
  rw [if_neg (by omega)] at hk
  obtain ⟨N, hN⟩ : ∃ N, N = 2 ^ l.length := ⟨_, rfl⟩
  have hN1 : 1 ≤ N := by rw [hN]; exact Nat.one_le_two_pow
  have hN2 : N ≤ 4096 := by rw [hN]; exact Nat.pow_le_pow_right (by omega) (show l.length ≤ 12 by omega)
  rw [← hN] at hk
  simp (maxSteps := 2000000) -implicitDefEqProofs only [↓x32, ↓r32, gt_iff_lt, h12, s_alt, s_alt20, s_alt2t, s_alt2f, ↓s_loopi, ↓v_pq, ↓PRE, POST, CORE, Nat.reduceDiv, Nat.reduceMod, Int.reduceLT, Int.reduceLE, Int.reduceToNat, Int.reduceAdd, ↓reduceIte, Nat.reduceEqDiff, Nat.reduceAdd, Nat.reduceMul, Nat.reduceSub, Nat.reduceLeDiff, Nat.reduceLT, reduceCtorEq, if_true, eq_self, forall_const, implies_true]
  refine TXi_of (TX_count (@s32 J) (N - 1) (fun x => [(0, .v (.slice p l.length cc)), (1, .v (.int .i64 b)), (2, .v (.int .i64 n)), (7, .ptr 0 0), (8, .v (.int .u64 ((x + 1 : Nat) : Int)))]) (fun x => [⟨true, [.v (.int .u64 ((bestM (cN l n) l.length (room b) x).1 : Int)), .v (.int .i64 (bestM (cN l n) l.length (room b) x).2)]⟩]) (fun x => True) trivial ?_ ?_ ?_)
  · exact (by refine ⟨[0], by simp [NdL, NdA, oO_cells, oO_own, iL_nil], ?_, ?_, keep0 hJ⟩ <;> simp only [FitM, FitE, ObLe, LeL, Le, List.cons_append, List.nil_append] <;> (try (simp (maxSteps := 2000000) -implicitDefEqProofs only [bestM, s_alt, s_alt20, s_alt2t, s_alt2f, ↓s_loopi, ↓v_pq, ↓PRE, POST, CORE, Nat.reduceDiv, Nat.reduceMod, Int.reduceLT, Int.reduceLE, Int.reduceToNat, Int.reduceAdd, ↓reduceIte, Nat.reduceEqDiff, Nat.reduceAdd, Nat.reduceMul, Nat.reduceSub, Nat.reduceLeDiff, Nat.reduceLT, reduceCtorEq, if_true, eq_self, forall_const, implies_true])) <;> (try simp only [Sz.Le, Sz.LeL, List.getElem?_cons_zero, List.getElem?_cons_succ]) <;> (try simp))
  · intro x hx _
    obtain ⟨M, hM⟩ : ∃ M, M = x + 1 := ⟨_, rfl⟩
    rw [← hM]
    have hble := bestM_le (cN l n) l.length (room b) x
    have hbs : bestM (cN l n) l.length (room b) M = if costM (cN l n) l.length M ≤ room b ∧ betF (M : Int) (costM (cN l n) l.length M) ((bestM (cN l n) l.length (room b) x).1 : Int) (bestM (cN l n) l.length (room b) x).2 = true then (M, costM (cN l n) l.length M) else bestM (cN l n) l.length (room b) x := by rw [hM, bestM]
    rw [hbs]
    generalize bestM (cN l n) l.length (room b) x = st at hble ⊢
    obtain ⟨bm, bc⟩ := st
    simp only at hble ⊢
    have hMN : M < N := by omega
    have u0 : (0 : Int) ≤ (l.length : Int) := by omega
    have uwl : IntKind.u64.wrap (l.length : Int) = (l.length : Int) := uw (by omega) (by omega)
    have hsh : shU (M : Int) l.length = 0 := by
      rw [shU_nat _ _ (by omega), Nat.div_eq_of_lt (by rw [← hN]; exact hMN)]
      rfl
    have hroom : (if (64 : Int) < b then (64 : Int) else b) = room b := rfl
    have hr64 : room b ≤ 64 := by unfold room; split <;> omega
    have uwM : IntKind.u64.wrap ((M : Int) + 1) = ((M + 1 : Nat) : Int) := by
      rw [uw (by omega) (by omega)]
      push_cast
      rfl
    simp (maxSteps := 2000000) -implicitDefEqProofs only [uwl, u0, f_shU, Int.toNat_natCast, hsh, beq_self_eq_true, s_alt, s_alt20, s_alt2t, s_alt2f, ↓s_loopi, ↓v_pq, ↓PRE, POST, CORE, Nat.reduceDiv, Nat.reduceMod, Int.reduceLT, Int.reduceLE, Int.reduceToNat, Int.reduceAdd, ↓reduceIte, Nat.reduceEqDiff, Nat.reduceAdd, Nat.reduceMul, Nat.reduceSub, Nat.reduceLeDiff, Nat.reduceLT, reduceCtorEq, if_true, eq_self, forall_const, implies_true]
    refine TXi_of (TX_count (@s32 J) l.length (fun i => [(0, .v (.slice p l.length cc)), (1, .v (.int .i64 b)), (2, .v (.int .i64 n)), (7, .ptr 0 0), (8, .v (.int .u64 (M : Int))), (9, .ptr 1 0), (29, .v (.slice p l.length cc)), (30, .v (.int .i64 (l.length : Int))), (31, .v (.int .i64 (i : Int)))]) (fun i => [⟨true, [.v (.int .u64 (bm : Int)), .v (.int .i64 bc)]⟩, ⟨true, [.v (.int .u64 (M : Int)), .v (.int .i64 (sumB (cN l n) M i))]⟩]) (fun i => badB (cN l n) M i = false) rfl ?_ ?_ ?_)
    · exact (by refine ⟨[0, 1], by simp [NdL, NdA, oO_cells, oO_own, iL_nil], ?_, ?_, keep0 hJ⟩ <;> simp only [FitM, FitE, ObLe, LeL, Le, List.cons_append, List.nil_append] <;> (try (simp (maxSteps := 2000000) -implicitDefEqProofs only [sumB, s_alt, s_alt20, s_alt2t, s_alt2f, ↓s_loopi, ↓v_pq, ↓PRE, POST, CORE, Nat.reduceDiv, Nat.reduceMod, Int.reduceLT, Int.reduceLE, Int.reduceToNat, Int.reduceAdd, ↓reduceIte, Nat.reduceEqDiff, Nat.reduceAdd, Nat.reduceMul, Nat.reduceSub, Nat.reduceLeDiff, Nat.reduceLT, reduceCtorEq, if_true, eq_self, forall_const, implies_true])) <;> (try simp only [Sz.Le, Sz.LeL, List.getElem?_cons_zero, List.getElem?_cons_succ]) <;> (try simp))
    · intro i hi hbad
      obtain ⟨r, hrr⟩ : ∃ r, l[i]? = some r := ⟨_, List.getElem?_eq_getElem hi⟩
      have hp : p.isSome = true := inpL_isSome hin (by omega)
      have f : inpL (plusA p (i * 2)) 2 = some [.int .i64 r.fr, .int .i64 r.to] := inp_item gV_len hin rfl hrr
      have i0 : (0 : Int) ≤ (i : Int) := by omega
      have i1 : (i : Int) < (l.length : Int) := by omega
      have w1 : IntKind.i64.wrap ((i : Int) + 1) = (i : Int) + 1 := Sz.w_64 (by omega) (by omega)
      have uwi : IntKind.u64.wrap (i : Int) = (i : Int) := uw (by omega) (by omega)
      have hsb := sumB_bd (cN_bd l n) M i
      have hci : cN l n i = totF r.fr r.to n := cN_at hrr
      have o10 : ((1 : Int) == 0) = false := rfl
      have hc0 : 0 ≤ totF r.fr r.to n ∧ totF r.fr r.to n ≤ 74 := totF_bd _ _ _
      cases hbit : M.testBit i with
      | false =>
        have hb0 := bit0 (m := M) (i := i) (by omega) (by omega) hbit
        have hsn : sumB (cN l n) M (i + 1) = sumB (cN l n) M i := by rw [sumB, hbit]; rfl
        have hbn : badB (cN l n) M (i + 1) = false := by rw [badB, hbad, hbit]; rfl
        rw [hsn]
        simp (maxSteps := 2000000) -implicitDefEqProofs only [i0, i1, hp, f, uwi, f_shU, Int.toNat_natCast, f_andU, hb0, beq_self_eq_true, w1, s_alt, s_alt20, s_alt2t, s_alt2f, ↓s_loopi, ↓v_pq, ↓PRE, POST, CORE, Nat.reduceDiv, Nat.reduceMod, Int.reduceLT, Int.reduceLE, Int.reduceToNat, Int.reduceAdd, ↓reduceIte, Nat.reduceEqDiff, Nat.reduceAdd, Nat.reduceMul, Nat.reduceSub, Nat.reduceLeDiff, Nat.reduceLT, reduceCtorEq, if_true, eq_self, forall_const, implies_true]
        exact ⟨hbn, (by refine ⟨[0, 1], by simp [NdL, NdA, oO_cells, oO_own, iL_nil], ?_, ?_, keep0 hJ⟩ <;> simp only [FitM, FitE, ObLe, LeL, Le, List.cons_append, List.nil_append] <;> (try (simp (maxSteps := 2000000) -implicitDefEqProofs only [s_alt, s_alt20, s_alt2t, s_alt2f, ↓s_loopi, ↓v_pq, ↓PRE, POST, CORE, Nat.reduceDiv, Nat.reduceMod, Int.reduceLT, Int.reduceLE, Int.reduceToNat, Int.reduceAdd, ↓reduceIte, Nat.reduceEqDiff, Nat.reduceAdd, Nat.reduceMul, Nat.reduceSub, Nat.reduceLeDiff, Nat.reduceLT, reduceCtorEq, if_true, eq_self, forall_const, implies_true])) <;> (try simp only [Sz.Le, Sz.LeL, List.getElem?_cons_zero, List.getElem?_cons_succ]) <;> (try simp))⟩
      | true =>
        have hb0 := bit1 (m := M) (i := i) (by omega) (by omega) hbit
        have hsn : sumB (cN l n) M (i + 1) = sumB (cN l n) M i + totF r.fr r.to n := by rw [sumB, hbit, hci]; rfl
        have hbn : badB (cN l n) M (i + 1) = (totF r.fr r.to n == 0) := by rw [badB, hbad, hbit, hci]; rfl
        by_cases hz : totF r.fr r.to n = 0
        · have hzb : (totF r.fr r.to n == 0) = true := by simpa using hz
          simp (maxSteps := 2000000) -implicitDefEqProofs only [i0, i1, hp, f, uwi, f_shU, Int.toNat_natCast, f_andU, hb0, o10, ↓G32, ↓a62, ↓a63, hzb, s_alt, s_alt20, s_alt2t, s_alt2f, ↓s_loopi, ↓v_pq, ↓PRE, POST, CORE, Nat.reduceDiv, Nat.reduceMod, Int.reduceLT, Int.reduceLE, Int.reduceToNat, Int.reduceAdd, ↓reduceIte, Nat.reduceEqDiff, Nat.reduceAdd, Nat.reduceMul, Nat.reduceSub, Nat.reduceLeDiff, Nat.reduceLT, reduceCtorEq, if_true, eq_self, forall_const, implies_true]
          have hcost : costM (cN l n) l.length M = 65 := if_pos (badB_mono (show i + 1 ≤ l.length by omega) (by rw [hbn, hzb]))
          have h65 : ¬ (65 : Int) ≤ room b := by omega
          have hif : (if (65 : Int) ≤ room b ∧ betF (M : Int) 65 (bm : Int) bc = true then (M, (65 : Int)) else (bm, bc)) = (bm, bc) := if_neg (fun q => h65 q.1)
          rw [hcost, hif]
          simp (maxSteps := 2000000) -implicitDefEqProofs only [hroom, h65, uwM, s_alt, s_alt20, s_alt2t, s_alt2f, ↓s_loopi, ↓v_pq, ↓PRE, POST, CORE, Nat.reduceDiv, Nat.reduceMod, Int.reduceLT, Int.reduceLE, Int.reduceToNat, Int.reduceAdd, ↓reduceIte, Nat.reduceEqDiff, Nat.reduceAdd, Nat.reduceMul, Nat.reduceSub, Nat.reduceLeDiff, Nat.reduceLT, reduceCtorEq, if_true, eq_self, forall_const, implies_true]
          exact (by refine ⟨[0], by simp [NdL, NdA, oO_cells, oO_own, iL_nil], ?_, ?_, keep0 hJ⟩ <;> simp only [FitM, FitE, ObLe, LeL, Le, List.cons_append, List.nil_append] <;> (try (simp (maxSteps := 2000000) -implicitDefEqProofs only [s_alt, s_alt20, s_alt2t, s_alt2f, ↓s_loopi, ↓v_pq, ↓PRE, POST, CORE, Nat.reduceDiv, Nat.reduceMod, Int.reduceLT, Int.reduceLE, Int.reduceToNat, Int.reduceAdd, ↓reduceIte, Nat.reduceEqDiff, Nat.reduceAdd, Nat.reduceMul, Nat.reduceSub, Nat.reduceLeDiff, Nat.reduceLT, reduceCtorEq, if_true, eq_self, forall_const, implies_true])) <;> (try simp only [Sz.Le, Sz.LeL, List.getElem?_cons_zero, List.getElem?_cons_succ]) <;> (try simp))
        · have hzb : (totF r.fr r.to n == 0) = false := by simpa using hz
          have w2 : IntKind.i64.wrap (sumB (cN l n) M i + totF r.fr r.to n) = sumB (cN l n) M i + totF r.fr r.to n := Sz.w_64 (by omega) (by omega)
          rw [hsn]
          simp (maxSteps := 2000000) -implicitDefEqProofs only [i0, i1, hp, f, uwi, f_shU, Int.toNat_natCast, f_andU, hb0, o10, ↓G32, ↓a62, ↓a63, hzb, w1, w2, s_alt, s_alt20, s_alt2t, s_alt2f, ↓s_loopi, ↓v_pq, ↓PRE, POST, CORE, Nat.reduceDiv, Nat.reduceMod, Int.reduceLT, Int.reduceLE, Int.reduceToNat, Int.reduceAdd, ↓reduceIte, Nat.reduceEqDiff, Nat.reduceAdd, Nat.reduceMul, Nat.reduceSub, Nat.reduceLeDiff, Nat.reduceLT, reduceCtorEq, if_true, eq_self, forall_const, implies_true]
          exact ⟨by rw [hbn, hzb], (by refine ⟨[0, 1], by simp [NdL, NdA, oO_cells, oO_own, iL_nil], ?_, ?_, keep0 hJ⟩ <;> simp only [FitM, FitE, ObLe, LeL, Le, List.cons_append, List.nil_append] <;> (try (simp (maxSteps := 2000000) -implicitDefEqProofs only [s_alt, s_alt20, s_alt2t, s_alt2f, ↓s_loopi, ↓v_pq, ↓PRE, POST, CORE, Nat.reduceDiv, Nat.reduceMod, Int.reduceLT, Int.reduceLE, Int.reduceToNat, Int.reduceAdd, ↓reduceIte, Nat.reduceEqDiff, Nat.reduceAdd, Nat.reduceMul, Nat.reduceSub, Nat.reduceLeDiff, Nat.reduceLT, reduceCtorEq, if_true, eq_self, forall_const, implies_true])) <;> (try simp only [Sz.Le, Sz.LeL, List.getElem?_cons_zero, List.getElem?_cons_succ]) <;> (try simp))⟩
    · intro hbad
      have i1 : ¬ (l.length : Int) < (l.length : Int) := by omega
      simp (maxSteps := 2000000) -implicitDefEqProofs only [i1, ↓G32, ↓a63, s_alt, s_alt20, s_alt2t, s_alt2f, ↓s_loopi, ↓v_pq, ↓PRE, POST, CORE, Nat.reduceDiv, Nat.reduceMod, Int.reduceLT, Int.reduceLE, Int.reduceToNat, Int.reduceAdd, ↓reduceIte, Nat.reduceEqDiff, Nat.reduceAdd, Nat.reduceMul, Nat.reduceSub, Nat.reduceLeDiff, Nat.reduceLT, reduceCtorEq, if_true, eq_self, forall_const, implies_true]
      have hcost : costM (cN l n) l.length M = sumB (cN l n) M l.length := if_neg (by rw [hbad]; simp)
      rw [hcost]
      generalize sumB (cN l n) M l.length = S
      by_cases h1 : S ≤ room b
      · by_cases h2 : betF (M : Int) S (bm : Int) bc = true
        · have hif : (if S ≤ room b ∧ betF (M : Int) S (bm : Int) bc = true then (M, S) else (bm, bc)) = (M, S) := if_pos ⟨h1, h2⟩
          rw [hif]
          simp (maxSteps := 2000000) -implicitDefEqProofs only [hroom, h1, h2, uwM, s_alt, s_alt20, s_alt2t, s_alt2f, ↓s_loopi, ↓v_pq, ↓PRE, POST, CORE, Nat.reduceDiv, Nat.reduceMod, Int.reduceLT, Int.reduceLE, Int.reduceToNat, Int.reduceAdd, ↓reduceIte, Nat.reduceEqDiff, Nat.reduceAdd, Nat.reduceMul, Nat.reduceSub, Nat.reduceLeDiff, Nat.reduceLT, reduceCtorEq, if_true, eq_self, forall_const, implies_true]
          exact (by refine ⟨[0], by simp [NdL, NdA, oO_cells, oO_own, iL_nil], ?_, ?_, keep0 hJ⟩ <;> simp only [FitM, FitE, ObLe, LeL, Le, List.cons_append, List.nil_append] <;> (try (simp (maxSteps := 2000000) -implicitDefEqProofs only [s_alt, s_alt20, s_alt2t, s_alt2f, ↓s_loopi, ↓v_pq, ↓PRE, POST, CORE, Nat.reduceDiv, Nat.reduceMod, Int.reduceLT, Int.reduceLE, Int.reduceToNat, Int.reduceAdd, ↓reduceIte, Nat.reduceEqDiff, Nat.reduceAdd, Nat.reduceMul, Nat.reduceSub, Nat.reduceLeDiff, Nat.reduceLT, reduceCtorEq, if_true, eq_self, forall_const, implies_true])) <;> (try simp only [Sz.Le, Sz.LeL, List.getElem?_cons_zero, List.getElem?_cons_succ]) <;> (try simp))
        · have hif : (if S ≤ room b ∧ betF (M : Int) S (bm : Int) bc = true then (M, S) else (bm, bc)) = (bm, bc) := if_neg (fun q => h2 q.2)
          rw [hif]
          simp (maxSteps := 2000000) -implicitDefEqProofs only [hroom, h1, h2, uwM, s_alt, s_alt20, s_alt2t, s_alt2f, ↓s_loopi, ↓v_pq, ↓PRE, POST, CORE, Nat.reduceDiv, Nat.reduceMod, Int.reduceLT, Int.reduceLE, Int.reduceToNat, Int.reduceAdd, ↓reduceIte, Nat.reduceEqDiff, Nat.reduceAdd, Nat.reduceMul, Nat.reduceSub, Nat.reduceLeDiff, Nat.reduceLT, reduceCtorEq, if_true, eq_self, forall_const, implies_true]
          exact (by refine ⟨[0], by simp [NdL, NdA, oO_cells, oO_own, iL_nil], ?_, ?_, keep0 hJ⟩ <;> simp only [FitM, FitE, ObLe, LeL, Le, List.cons_append, List.nil_append] <;> (try (simp (maxSteps := 2000000) -implicitDefEqProofs only [s_alt, s_alt20, s_alt2t, s_alt2f, ↓s_loopi, ↓v_pq, ↓PRE, POST, CORE, Nat.reduceDiv, Nat.reduceMod, Int.reduceLT, Int.reduceLE, Int.reduceToNat, Int.reduceAdd, ↓reduceIte, Nat.reduceEqDiff, Nat.reduceAdd, Nat.reduceMul, Nat.reduceSub, Nat.reduceLeDiff, Nat.reduceLT, reduceCtorEq, if_true, eq_self, forall_const, implies_true])) <;> (try simp only [Sz.Le, Sz.LeL, List.getElem?_cons_zero, List.getElem?_cons_succ]) <;> (try simp))
      · have hif : (if S ≤ room b ∧ betF (M : Int) S (bm : Int) bc = true then (M, S) else (bm, bc)) = (bm, bc) := if_neg (fun q => h1 q.1)
        rw [hif]
        simp (maxSteps := 2000000) -implicitDefEqProofs only [hroom, h1, uwM, s_alt, s_alt20, s_alt2t, s_alt2f, ↓s_loopi, ↓v_pq, ↓PRE, POST, CORE, Nat.reduceDiv, Nat.reduceMod, Int.reduceLT, Int.reduceLE, Int.reduceToNat, Int.reduceAdd, ↓reduceIte, Nat.reduceEqDiff, Nat.reduceAdd, Nat.reduceMul, Nat.reduceSub, Nat.reduceLeDiff, Nat.reduceLT, reduceCtorEq, if_true, eq_self, forall_const, implies_true]
        exact (by refine ⟨[0], by simp [NdL, NdA, oO_cells, oO_own, iL_nil], ?_, ?_, keep0 hJ⟩ <;> simp only [FitM, FitE, ObLe, LeL, Le, List.cons_append, List.nil_append] <;> (try (simp (maxSteps := 2000000) -implicitDefEqProofs only [s_alt, s_alt20, s_alt2t, s_alt2f, ↓s_loopi, ↓v_pq, ↓PRE, POST, CORE, Nat.reduceDiv, Nat.reduceMod, Int.reduceLT, Int.reduceLE, Int.reduceToNat, Int.reduceAdd, ↓reduceIte, Nat.reduceEqDiff, Nat.reduceAdd, Nat.reduceMul, Nat.reduceSub, Nat.reduceLeDiff, Nat.reduceLT, reduceCtorEq, if_true, eq_self, forall_const, implies_true])) <;> (try simp only [Sz.Le, Sz.LeL, List.getElem?_cons_zero, List.getElem?_cons_succ]) <;> (try simp))
  · intro _
    have hNN : N - 1 + 1 = N := by omega
    rw [hNN]
    have u0 : (0 : Int) ≤ (l.length : Int) := by omega
    have uwl : IntKind.u64.wrap (l.length : Int) = (l.length : Int) := uw (by omega) (by omega)
    have hsh : shU (N : Int) l.length = 1 := by
      rw [shU_nat _ _ (by omega), hN, Nat.div_self (Nat.two_pow_pos _)]
      rfl
    have o10 : ((1 : Int) == 0) = false := rfl
    have hble := bestM_le (cN l n) l.length (room b) (N - 1)
    generalize bestM (cN l n) l.length (room b) (N - 1) = st at hble hk ⊢
    obtain ⟨bm, bc⟩ := st
    simp only at hble hk ⊢
    simp (maxSteps := 2000000) -implicitDefEqProofs only [uwl, u0, f_shU, Int.toNat_natCast, hsh, o10, s_alt, s_alt20, s_alt2t, s_alt2f, ↓s_loopi, ↓v_pq, ↓PRE, POST, CORE, Nat.reduceDiv, Nat.reduceMod, Int.reduceLT, Int.reduceLE, Int.reduceToNat, Int.reduceAdd, ↓reduceIte, Nat.reduceEqDiff, Nat.reduceAdd, Nat.reduceMul, Nat.reduceSub, Nat.reduceLeDiff, Nat.reduceLT, reduceCtorEq, if_true, eq_self, forall_const, implies_true]
    refine TXi_of (TX_count (@s32 J) l.length (fun i => [(7, .ptr 0 0), (13, rS 1 1 (bitsL bm i).length), (66, .v (.int .i64 (l.length : Int))), (67, .v (.int .i64 (i : Int)))]) (fun i => ⟨true, [.v (.int .u64 (bm : Int)), .v (.int .i64 bc)]⟩ :: rM (iL (bitsL bm i))) (fun i => True) trivial ?_ ?_ ?_)
    · have e0 : bitsL bm 0 = [] := rfl
      rw [e0, List.length_nil, rS_0, iL_nil, rM_0]
      exact (by refine ⟨[0], by simp [NdL, NdA, oO_cells, oO_own, iL_nil], ?_, ?_, keep0 hJ⟩ <;> simp only [FitM, FitE, ObLe, LeL, Le, List.cons_append, List.nil_append] <;> (try (simp (maxSteps := 2000000) -implicitDefEqProofs only [s_alt, s_alt20, s_alt2t, s_alt2f, ↓s_loopi, ↓v_pq, ↓PRE, POST, CORE, Nat.reduceDiv, Nat.reduceMod, Int.reduceLT, Int.reduceLE, Int.reduceToNat, Int.reduceAdd, ↓reduceIte, Nat.reduceEqDiff, Nat.reduceAdd, Nat.reduceMul, Nat.reduceSub, Nat.reduceLeDiff, Nat.reduceLT, reduceCtorEq, if_true, eq_self, forall_const, implies_true])) <;> (try simp only [Sz.Le, Sz.LeL, List.getElem?_cons_zero, List.getElem?_cons_succ]) <;> (try simp))
    · intro i hi _
      have i1 : (i : Int) < (l.length : Int) := by omega
      have i0 : (0 : Int) ≤ (i : Int) := by omega
      have w1 : IntKind.i64.wrap ((i : Int) + 1) = (i : Int) + 1 := Sz.w_64 (by omega) (by omega)
      have uwi : IntKind.u64.wrap (i : Int) = (i : Int) := uw (by omega) (by omega)
      have o01 : ((0 : Int) == 1) = false := rfl
      have hbl := bitsL_len bm i
      rw [bitsL_succ]
      generalize bitsL bm i = out at hbl ⊢
      cases hbit : bm.testBit i with
      | false =>
        have hb0 := bit0 (m := bm) (i := i) (by omega) (by omega) hbit
        simp only [Bool.false_eq_true, if_false]
        by_cases ho : out = []
        · obtain ⟨e8, e9⟩ := nil_facts ho
          rw [e8, e9]
          simp (maxSteps := 2000000) -implicitDefEqProofs only [i0, i1, w1, uwi, f_shU, Int.toNat_natCast, f_andU, hb0, o01, s_alt, s_alt20, s_alt2t, s_alt2f, ↓s_loopi, ↓v_pq, ↓PRE, POST, CORE, Nat.reduceDiv, Nat.reduceMod, Int.reduceLT, Int.reduceLE, Int.reduceToNat, Int.reduceAdd, ↓reduceIte, Nat.reduceEqDiff, Nat.reduceAdd, Nat.reduceMul, Nat.reduceSub, Nat.reduceLeDiff, Nat.reduceLT, reduceCtorEq, if_true, eq_self, forall_const, implies_true]
          exact (by refine ⟨[0], by simp [NdL, NdA, oO_cells, oO_own, iL_nil], ?_, ?_, keep0 hJ⟩ <;> simp only [FitM, FitE, ObLe, LeL, Le, List.cons_append, List.nil_append] <;> (try (simp (maxSteps := 2000000) -implicitDefEqProofs only [iL_fold, iL_over, iL_all, iL_get, iL_len, iL_take, iL_drop, iL_one, iL_plain, iL_le, List.length_set, s_alt, s_alt20, s_alt2t, s_alt2f, ↓s_loopi, ↓v_pq, ↓PRE, POST, CORE, Nat.reduceDiv, Nat.reduceMod, Int.reduceLT, Int.reduceLE, Int.reduceToNat, Int.reduceAdd, ↓reduceIte, Nat.reduceEqDiff, Nat.reduceAdd, Nat.reduceMul, Nat.reduceSub, Nat.reduceLeDiff, Nat.reduceLT, reduceCtorEq, if_true, eq_self, forall_const, implies_true])) <;> (try simp only [Sz.Le, Sz.LeL, List.getElem?_cons_zero, List.getElem?_cons_succ]) <;> (try simp))
        · obtain ⟨e8, e9⟩ := ne_facts ho
          rw [e8, e9]
          simp (maxSteps := 2000000) -implicitDefEqProofs only [i0, i1, w1, uwi, f_shU, Int.toNat_natCast, f_andU, hb0, o01, s_alt, s_alt20, s_alt2t, s_alt2f, ↓s_loopi, ↓v_pq, ↓PRE, POST, CORE, Nat.reduceDiv, Nat.reduceMod, Int.reduceLT, Int.reduceLE, Int.reduceToNat, Int.reduceAdd, ↓reduceIte, Nat.reduceEqDiff, Nat.reduceAdd, Nat.reduceMul, Nat.reduceSub, Nat.reduceLeDiff, Nat.reduceLT, reduceCtorEq, if_true, eq_self, forall_const, implies_true]
          exact (by refine ⟨[0, 1], by simp [NdL, NdA, oO_cells, oO_own, iL_nil], ?_, ?_, keep0 hJ⟩ <;> simp only [FitM, FitE, ObLe, LeL, Le, List.cons_append, List.nil_append] <;> (try (simp (maxSteps := 2000000) -implicitDefEqProofs only [iL_fold, iL_over, iL_all, iL_get, iL_len, iL_take, iL_drop, iL_one, iL_plain, iL_le, List.length_set, s_alt, s_alt20, s_alt2t, s_alt2f, ↓s_loopi, ↓v_pq, ↓PRE, POST, CORE, Nat.reduceDiv, Nat.reduceMod, Int.reduceLT, Int.reduceLE, Int.reduceToNat, Int.reduceAdd, ↓reduceIte, Nat.reduceEqDiff, Nat.reduceAdd, Nat.reduceMul, Nat.reduceSub, Nat.reduceLeDiff, Nat.reduceLT, reduceCtorEq, if_true, eq_self, forall_const, implies_true])) <;> (try simp only [Sz.Le, Sz.LeL, List.getElem?_cons_zero, List.getElem?_cons_succ]) <;> (try simp))
      | true =>
        have hb0 := bit1 (m := bm) (i := i) (by omega) (by omega) hbit
        simp only [if_true]
        obtain ⟨e6, e7⟩ := ne_facts (L := out ++ [(i : Int)]) (by simp)
        have hl1 : (out ++ [(i : Int)]).length = out.length + 1 := by simp
        rw [e6, e7, hl1]
        by_cases ho : out = []
        · subst ho
          rw [List.length_nil, rS_0, iL_nil, rM_0, List.nil_append]
          have e8 : iL [(i : Int)] = [.v (.int .i64 (i : Int))] := rfl
          rw [e8]
          simp (maxSteps := 2000000) -implicitDefEqProofs only [i0, i1, w1, uwi, f_shU, Int.toNat_natCast, f_andU, hb0, beq_self_eq_true, inp00, Option.map_some, List.map_nil, s_alt, s_alt20, s_alt2t, s_alt2f, ↓s_loopi, ↓v_pq, ↓PRE, POST, CORE, Nat.reduceDiv, Nat.reduceMod, Int.reduceLT, Int.reduceLE, Int.reduceToNat, Int.reduceAdd, ↓reduceIte, Nat.reduceEqDiff, Nat.reduceAdd, Nat.reduceMul, Nat.reduceSub, Nat.reduceLeDiff, Nat.reduceLT, reduceCtorEq, if_true, eq_self, forall_const, implies_true]
          exact ⟨by unfold maxLen; omega, (by refine ⟨[0, 2], by simp [NdL, NdA, oO_cells, oO_own, iL_nil], ?_, ?_, keep0 hJ⟩ <;> simp only [FitM, FitE, ObLe, LeL, Le, List.cons_append, List.nil_append] <;> (try (simp (maxSteps := 2000000) -implicitDefEqProofs only [s_alt, s_alt20, s_alt2t, s_alt2f, ↓s_loopi, ↓v_pq, ↓PRE, POST, CORE, Nat.reduceDiv, Nat.reduceMod, Int.reduceLT, Int.reduceLE, Int.reduceToNat, Int.reduceAdd, ↓reduceIte, Nat.reduceEqDiff, Nat.reduceAdd, Nat.reduceMul, Nat.reduceSub, Nat.reduceLeDiff, Nat.reduceLT, reduceCtorEq, if_true, eq_self, forall_const, implies_true])) <;> (try simp only [Sz.Le, Sz.LeL, List.getElem?_cons_zero, List.getElem?_cons_succ]) <;> (try simp))⟩
        · obtain ⟨e8, e9⟩ := ne_facts ho
          have h5 : out.length + 1 ≤ maxLen := by unfold maxLen; omega
          have h6 : (out.length + 1) * 8 ≤ 140737488355328 := by omega
          rw [e8, e9]
          simp (maxSteps := 2000000) -implicitDefEqProofs only [i0, i1, w1, uwi, f_shU, Int.toNat_natCast, f_andU, hb0, beq_self_eq_true, iL_fold, iL_over, iL_all, iL_get, iL_len, iL_take, iL_drop, iL_one, iL_plain, iL_le, List.length_set, Nat.mul_one, h5, h6, iL_snoc, List.take_length, s_alt, s_alt20, s_alt2t, s_alt2f, ↓s_loopi, ↓v_pq, ↓PRE, POST, CORE, Nat.reduceDiv, Nat.reduceMod, Int.reduceLT, Int.reduceLE, Int.reduceToNat, Int.reduceAdd, ↓reduceIte, Nat.reduceEqDiff, Nat.reduceAdd, Nat.reduceMul, Nat.reduceSub, Nat.reduceLeDiff, Nat.reduceLT, reduceCtorEq, if_true, eq_self, forall_const, implies_true]
          exact (by refine ⟨[0, 3], by simp [NdL, NdA, oO_cells, oO_own, iL_nil], ?_, ?_, keep0 hJ⟩ <;> simp only [FitM, FitE, ObLe, LeL, Le, List.cons_append, List.nil_append] <;> (try (simp (maxSteps := 2000000) -implicitDefEqProofs only [iL_fold, iL_over, iL_all, iL_get, iL_len, iL_take, iL_drop, iL_one, iL_plain, iL_le, List.length_set, s_alt, s_alt20, s_alt2t, s_alt2f, ↓s_loopi, ↓v_pq, ↓PRE, POST, CORE, Nat.reduceDiv, Nat.reduceMod, Int.reduceLT, Int.reduceLE, Int.reduceToNat, Int.reduceAdd, ↓reduceIte, Nat.reduceEqDiff, Nat.reduceAdd, Nat.reduceMul, Nat.reduceSub, Nat.reduceLeDiff, Nat.reduceLT, reduceCtorEq, if_true, eq_self, forall_const, implies_true])) <;> (try simp only [Sz.Le, Sz.LeL, List.getElem?_cons_zero, List.getElem?_cons_succ]) <;> (try simp))
    · intro _
      have i1 : ¬ (l.length : Int) < (l.length : Int) := by omega
      generalize bitsL bm l.length = Z at hk ⊢
      simp (maxSteps := 2000000) -implicitDefEqProofs only [i1, s_alt, s_alt20, s_alt2t, s_alt2f, ↓s_loopi, ↓v_pq, ↓PRE, POST, CORE, Nat.reduceDiv, Nat.reduceMod, Int.reduceLT, Int.reduceLE, Int.reduceToNat, Int.reduceAdd, ↓reduceIte, Nat.reduceEqDiff, Nat.reduceAdd, Nat.reduceMul, Nat.reduceSub, Nat.reduceLeDiff, Nat.reduceLT, reduceCtorEq, if_true, eq_self, forall_const, implies_true]
      by_cases hZ : Z = []
      · obtain ⟨e8, e9⟩ := nil_facts hZ
        rw [e8, e9] at hk ⊢
        rw [List.append_nil] at hk
        refine ⟨[], .v (.slice none 0 0), [], by simp [NdL], trivial, by simp, by simp only [Le], ?_⟩
        simpa [SV.up] using hk
      · obtain ⟨e8, e9⟩ := ne_facts hZ
        rw [e8, e9] at hk ⊢
        exact fin_i _ _ _ 1 rfl hk
end Qu
end Go.Proofs.Ytcejgadbpahbmaa
end
section
namespace Go.Proofs.Ytcejgadbpahbmaa.Qu
open Rc
def maskOf (p : Nat → Bool) : Nat → Nat
  | 0 => 0
  | n + 1 => if p n = true then maskOf p n ||| 2 ^ n else maskOf p n
theorem maskOf_lt (p : Nat → Bool) : ∀ n, maskOf p n < 2 ^ n
  | 0 => by simp [maskOf]
  | n + 1 => by
    have h := maskOf_lt p n
    have h2 : 2 ^ n < 2 ^ (n + 1) := Nat.pow_lt_pow_right (by omega) (by omega)
    unfold maskOf
    split
    · exact Nat.or_lt_two_pow (by omega) h2
    · omega
theorem maskOf_bit (p : Nat → Bool) : ∀ n i, (maskOf p n).testBit i = (decide (i < n) && p i)
  | 0, i => by simp [maskOf]
  | n + 1, i => by
    unfold maskOf
    split
    · rename_i h
      rw [Nat.testBit_or, maskOf_bit p n i, Nat.testBit_two_pow]
      by_cases h1 : n = i
      · subst h1; simp [h]
      · by_cases h2 : i < n
        · simp [h1, h2, show i < n + 1 by omega]
        · simp [h1, h2, show ¬ i < n + 1 by omega]
    · rename_i h
      rw [maskOf_bit p n i]
      by_cases h1 : n = i
      · subst h1; simp at h; simp [h]
      · by_cases h2 : i < n
        · simp [h2, show i < n + 1 by omega]
        · simp [h2, show ¬ i < n + 1 by omega]
theorem sumB_bits {c : Int → Int} {d : Nat → Int} (h : ∀ i : Nat, d i = c (i : Int)) (m : Nat) : ∀ n, sumB d m n = ((bitsL m n).map c).sum
  | 0 => rfl
  | n + 1 => by
    rw [bitsL_succ, sumB, sumB_bits h m n]
    split
    · rw [List.map_append, List.sum_append, h]; simp
    · rfl
theorem badB_false {d : Nat → Int} {m : Nat} : ∀ {n}, badB d m n = false ↔ ∀ i, i < n → m.testBit i = true → d i ≠ 0
  | 0 => by simp [badB]
  | n + 1 => by
    rw [badB, Bool.or_eq_false_iff, badB_false]
    constructor
    · rintro ⟨h1, h2⟩ i hi hb
      rcases Nat.lt_or_ge i n with h3 | h3
      · exact h1 i h3 hb
      · obtain rfl : i = n := by omega
        rw [hb, Bool.true_and] at h2
        simpa using h2
    · intro h
      refine ⟨fun i hi hb => h i (by omega) hb, ?_⟩
      cases hb : m.testBit n with
      | false => rfl
      | true =>
        have := h n (by omega) hb
        simpa using this
theorem cN_cA (l : List Ra.Rg) (n : Int) (i : Nat) : cN l n i = cA l n (i : Int) := rfl
end Go.Proofs.Ytcejgadbpahbmaa.Qu
end
section
namespace Go.Proofs.Ytcejgadbpahbmaa.Sz
open Go.RowKit
def FitS (e : Env) : List (Nat × SV) → Prop
  | [] => True
  | (t, s) :: l => e t = s ∧ FitS e l
theorem slots_same {e : Env} : ∀ {l : List (Nat × SV)}, FitS e l → ∀ t, slots l t = .any ∨ slots l t = e t
  | [], _, t => .inl rfl
  | (t', s) :: l, h, t => by
    simp only [FitS] at h
    simp only [slots]
    split
    · rename_i ht; subst ht; exact .inr h.1.symm
    · exact slots_same h.2 t
theorem EnvIs.slots_of {N : Nat} {r : List Loc} {e : Env} {ts : Array Value} {l : List (Nat × SV)} (he : EnvIs N r e ts) (h : FitS e l) : EnvIs N r (slots l) ts := ⟨he.size, fun t => by
  rcases slots_same h t with h1 | h1
  · rw [h1]; simp only [SV.Is]
  · rw [h1]; exact he.is t⟩
section
variable {P : Program} {N : Nat} {eff : List FuncId} {G : List CEntry} {e : Env} {m : Mem} {Q : Post}
theorem TX_loopM [Inp] {X : Type} (L : X → List (Nat × SV)) (M : X → Mem) (u : X → Nat) (x0 : X) {body : XC} (h0 : m = M x0 ∧ FitS e (L x0))
    (round : ∀ x, TX P N eff body (slots (L x)) (M x) (thenQ (fun e' m' => ∃ x', u x' < u x ∧ m' = M x' ∧ FitS e' (L x')) Q)) : TX P N eff (.loop body) e m Q := by
  intro c hc base w0 W r a hst he
  unfold compC at hc
  split at hc
  case h_7 c1 =>
    obtain ⟨x1, hx1, hc⟩ := Option.map_eq_some_iff.1 hc
    injection hc with hc; subst hc
    refine wp_loop_ghost (fun n a' W' => ∃ x r', n = u x ∧ St base w0 r' (M x) W' ∧ EnvIs N r' (slots (L x)) a'.tmps ∧ a'.defers = a.defers ∧ Kp r r') (u x0) ?_ ?_
    · obtain ⟨rfl, hE⟩ := h0
      exact ⟨x0, r, rfl, hst, he.slots_of hE, rfl, Kp.refl _⟩
    · rintro n a1 W1 ⟨x, r1, rfl, hst1, he1, hd1, hkp1⟩
      refine wp_mono (round x c1 hx1 base w0 W1 r1 a1 hst1 he1) ?_
      rintro ex a2 W2 ⟨hgo, e2, m2, r2, hq, hst2, he2, hd2, hkp2⟩
      cases ex <;> simp only [Exit.then]
      case normal =>
        simp only [thenQ] at hq
        obtain ⟨x', hlt, rfl, hE⟩ := hq
        exact ⟨u x', hlt, x', r2, rfl, hst2, he2.slots_of hE, hd2.trans hd1, hkp1.trans hkp2⟩
      case exit i => exact ⟨trivial, e2, m2, r2, hq, hst2, he2, hd2.trans hd1, hkp1.trans hkp2⟩
      case ret => exact ⟨trivial, e2, m2, r2, hq, hst2, he2, hd2.trans hd1, hkp1.trans hkp2⟩
      all_goals exact hgo.elim
  all_goals first | (cases hc; done) | (obtain ⟨x1, hx1, hc⟩ := Option.bind_eq_some_iff.1 hc; obtain ⟨x2, hx2, hc⟩ := Option.map_eq_some_iff.1 hc; cases hc; done) | (obtain ⟨x1, hx1, hc⟩ := Option.map_eq_some_iff.1 hc; cases hc; done) | (split at hc <;> first | (cases hc; done) | (obtain ⟨x1, hx1, hc⟩ := Option.map_eq_some_iff.1 hc; cases hc; done))
theorem TX_countM [Inp] (hG : GOk P G) (n : Nat) {σ : Type} (L : Nat → σ → List (Nat × SV)) (M : σ → Mem) (I : Nat → σ → Prop) (s0 : σ) {body : XC} (i0 : I 0 s0) (h0 : m = M s0 ∧ FitS e (L 0 s0))
    (round : ∀ x s, x < n → I x s → evX P N eff G body (slots (L x s)) (M s) (thenQ (fun e' m' => ∃ s', I (x + 1) s' ∧ m' = M s' ∧ FitS e' (L (x + 1) s')) Q))
    (last : ∀ s, I n s → evX P N eff G body (slots (L n s)) (M s) (thenQ (fun _ _ => False) Q)) : TX P N eff (.loop body) e m Q := by
  refine TX_loopM (X := { p : Nat × σ // p.1 ≤ n ∧ I p.1 p.2 }) (fun p => L p.1.1 p.1.2) (fun p => M p.1.2) (fun p => n - p.1.1) ⟨(0, s0), by simp, i0⟩ h0 ?_
  rintro ⟨⟨x, s⟩, hx, hi⟩
  simp only at hx hi
  by_cases hlt : x < n
  · refine (evX_sound hG _ (round x s hlt hi)).mono fun ex e' m' h => ?_
    cases ex <;> first | exact h | (obtain ⟨s', h1, h2⟩ := h; exact ⟨⟨(x + 1, s'), by simp only; omega, h1⟩, by simp only; omega, h2⟩)
  · obtain rfl : x = n := by omega
    refine (evX_sound hG _ (last s hi)).mono fun ex e' m' h => ?_
    cases ex <;> first | exact h | exact h.elim
end
end Go.Proofs.Ytcejgadbpahbmaa.Sz
end
section
namespace Go.Proofs.Ytcejgadbpahbmaa
open Go.RowKit Sz
set_option maxHeartbeats 16000000
set_option maxRecDepth 20000
namespace Qu
open Rc
-- almshouse/almshouseref41.room (1 parameters)
def x96 : XC := (.seq (.tree (.seq ⟨some 2, none, (.ofA (.mv (.cst (.v (.int .i64 0)))))⟩
 .done))
 (.seq (.seq (.tree (.seq ⟨some 3, none, (.ofA (.mv (.tmp 0)))⟩
 (.seq ⟨some 4, none, (.ofA (.bin .gtr (.tmp 3) (.cst (.v (.int .i64 64)))))⟩
 .done)))
 (.cond (.tmp 4)
 (.seq (.tree (.seq ⟨some 2, none, (.ofA (.mv (.cst (.v (.int .i64 64)))))⟩
 .done))
 .ret)
 .skip))
 (.seq (.tree (.seq ⟨some 5, none, (.ofA (.mv (.tmp 0)))⟩
 (.seq ⟨some 2, none, (.ofA (.mv (.tmp 5)))⟩
 .done)))
 .ret)))
def r96 : List XR := [.tmp 2]
theorem fn96 : FnX Try.prog 96 [82, 68, 97, 118, 999999] 6 x96 r96 := ⟨_, Try.func96, by kernel_rfl, by kernel_rfl, by kernel_rfl, by kernel_rfl⟩
-- almshouse/almshouseref41.all (3 parameters)
def x64 : XC := (.seq (.tree (.seq ⟨some 6, none, (.ofA (.mv (.cst (.v (.slice none 0 0)))))⟩
 .done))
 (.seq (.tree (.seq ⟨some 13, none, (.buildSl 1 1 [(.v (.slice none 0 0))] [(0, 1, (.cst (.v (.slice none 0 0))))])⟩
 (.seq ⟨some 7, none, (.ofA (.mv (.tmp 13)))⟩
 .done)))
 (.seq (.seq (.tree (.seq ⟨some 14, none, (.ofA (.mv (.tmp 0)))⟩
 (.seq ⟨some 15, none, (.ofA (.len (.tmp 14)))⟩
 (.seq ⟨some 16, none, (.ofA (.mv (.cst (.v (.int .i64 0)))))⟩
 .done))))
 (.block 0 (.loop (.seq (.tree (.seq ⟨some 17, none, (.ofA (.bin .lss (.tmp 16) (.tmp 15)))⟩
 .done))
 (.seq (.cond (.tmp 17)
 .skip
 (.exit 0))
 (.seq (.block 1 (.seq (.tree (.seq ⟨some 18, none, (.ofA (.mv (.tmp 16)))⟩
 (.seq ⟨some 19, none, (.ofA (.isl 2 (.tmp 14) (.tmp 16)))⟩
 (.seq ⟨some 20, none, (.ofA (.load (some 2) (.tmp 19)))⟩
 (.seq ⟨some 9, none, (.alloc [(.v (.int .i64 0)), (.v (.int .i64 0))])⟩
 (.seq ⟨some 8, none, (.ofA (.mv (.tmp 18)))⟩
 (.seq ⟨none, none, (.store 2 (.tmp 9) (.tmp 20))⟩
 .done)))))))
 (.seq (.tree (.seq ⟨some 21, none, (.ofA (.load (some 2) (.tmp 9)))⟩
 (.seq ⟨some 22, none, (.ofA (.mv (.tmp 2)))⟩
 (.seq ⟨some 23, none, (.call (.cst (.fn 70 [])) [(.tmp 21), (.tmp 22)])⟩
 (.seq ⟨some 10, none, (.ofA (.mv (.tmp 23)))⟩
 .done)))))
 (.seq (.seq (.tree (.seq ⟨some 24, none, (.ofA (.mv (.tmp 10)))⟩
 (.seq ⟨some 25, none, (.ofA (.bin .eql (.tmp 24) (.cst (.v (.int .i64 0)))))⟩
 .done)))
 (.cond (.tmp 25)
 (.exit 1)
 .skip))
 (.seq (.tree (.seq ⟨some 26, none, (.ofA (.mv (.tmp 7)))⟩
 (.seq ⟨some 27, none, (.ofA (.len (.tmp 26)))⟩
 (.seq ⟨some 28, none, (.ofA (.mv (.cst (.v (.int .i64 0)))))⟩
 .done))))
 (.block 2 (.loop (.seq (.tree (.seq ⟨some 29, none, (.ofA (.bin .lss (.tmp 28) (.tmp 27)))⟩
 .done))
 (.seq (.cond (.tmp 29)
 .skip
 (.exit 2))
 (.seq (.block 3 (.seq (.tree (.seq ⟨some 30, none, (.ofA (.isl 1 (.tmp 26) (.tmp 28)))⟩
 (.seq ⟨some 31, none, (.ofA (.load none (.tmp 30)))⟩
 (.seq ⟨some 12, none, (.ofA (.mv (.tmp 31)))⟩
 .done))))
 (.seq (.tree (.seq ⟨some 32, none, (.ofA (.mv (.tmp 0)))⟩
 (.seq ⟨some 33, none, (.ofA (.mv (.tmp 12)))⟩
 (.seq ⟨some 34, none, (.ofA (.mv (.tmp 2)))⟩
 (.seq ⟨some 35, none, (.call (.cst (.fn 37 [])) [(.tmp 32), (.tmp 33), (.tmp 34)])⟩
 (.seq ⟨some 36, none, (.ofA (.mv (.tmp 10)))⟩
 (.seq ⟨some 37, none, (.ofA (.bin .add (.tmp 35) (.tmp 36)))⟩
 (.seq ⟨some 38, none, (.ofA (.mv (.tmp 1)))⟩
 (.seq ⟨some 39, none, (.call (.cst (.fn 96 [])) [(.tmp 38)])⟩
 (.seq ⟨some 40, none, (.ofA (.bin .leq (.tmp 37) (.tmp 39)))⟩
 .done))))))))))
 (.cond (.tmp 40)
 (.tree (.seq ⟨some 41, none, (.ofA (.mv (.tmp 7)))⟩
 (.seq ⟨some 42, none, (.buildSl 1 0 [] [])⟩
 (.seq ⟨some 43, none, (.ofA (.mv (.tmp 12)))⟩
 (.seq ⟨some 44, none, (.app 1 8 (.tmp 42) (.tmp 43))⟩
 (.seq ⟨some 45, none, (.ofA (.mv (.tmp 8)))⟩
 (.seq ⟨some 46, none, (.buildSl 1 1 [(.v (.int .i64 0))] [(0, 1, (.tmp 45))])⟩
 (.seq ⟨some 47, none, (.app 1 8 (.tmp 44) (.tmp 46))⟩
 (.seq ⟨some 48, none, (.buildSl 1 1 [(.v (.slice none 0 0))] [(0, 1, (.tmp 47))])⟩
 (.seq ⟨some 49, none, (.appk 1 24 (.tmp 41) (.tmp 48))⟩
 (.seq ⟨some 7, none, (.ofA (.mv (.tmp 49)))⟩
 .done)))))))))))
 .skip))))
 (.tree (.seq ⟨some 50, none, (.ofA (.bin .add (.tmp 28) (.cst (.v (.int .i64 1)))))⟩
 (.seq ⟨some 28, none, (.ofA (.mv (.tmp 50)))⟩
 .done)))))))))))))
 (.tree (.seq ⟨some 51, none, (.ofA (.bin .add (.tmp 16) (.cst (.v (.int .i64 1)))))⟩
 (.seq ⟨some 16, none, (.ofA (.mv (.tmp 51)))⟩
 .done)))))))))
 (.seq (.tree (.seq ⟨some 52, none, (.ofA (.mv (.tmp 7)))⟩
 (.seq ⟨some 6, none, (.ofA (.mv (.tmp 52)))⟩
 .done)))
 .ret))))
def r64 : List XR := [.tmp 6]
theorem fn64 : FnX Try.prog 64 [82, 68, 97, 118, 999999] 53 x64 r64 := ⟨_, Try.func64, by kernel_rfl, by kernel_rfl, by kernel_rfl, by kernel_rfl⟩
def c96 [Inp] : Trans := fun args m k => match args with
  | [.v (.int .i64 b)] => k (.v (.int .i64 (room b))) m
  | _ => False
theorem a96 [Inp] {b : Int} {m : Mem} {k : SV → Mem → Prop} : c96 [.v (.int .i64 b)] m k = k (.v (.int .i64 (room b))) m := rfl
theorem c96_ok [Inp] : Contract Try.prog 96 true c96 := by
  refine .plainArgs fn96 (g0 _) _ fun args m k h => ?_
  unfold c96 at h
  split at h
  · rename_i b
    refine ⟨rfl, by simp, ?_⟩
    unfold room at h
    by_cases h1 : (64 : Int) < b
    · rw [if_pos h1] at h
      simp (maxSteps := 2000000) -implicitDefEqProofs only [↓x96, ↓r96, gt_iff_lt, h1, s_alt, s_alt20, s_alt2t, s_alt2f, ↓s_loopi, ↓v_pq, ↓PRE, POST, CORE, Nat.reduceDiv, Nat.reduceMod, Int.reduceLT, Int.reduceLE, Int.reduceToNat, Int.reduceAdd, ↓reduceIte, Nat.reduceEqDiff, Nat.reduceAdd, Nat.reduceMul, Nat.reduceSub, Nat.reduceLeDiff, Nat.reduceLT, reduceCtorEq, if_true, eq_self, forall_const, implies_true]
      exact h
    · rw [if_neg h1] at h
      simp (maxSteps := 2000000) -implicitDefEqProofs only [↓x96, ↓r96, gt_iff_lt, h1, s_alt, s_alt20, s_alt2t, s_alt2f, ↓s_loopi, ↓v_pq, ↓PRE, POST, CORE, Nat.reduceDiv, Nat.reduceMod, Int.reduceLT, Int.reduceLE, Int.reduceToNat, Int.reduceAdd, ↓reduceIte, Nat.reduceEqDiff, Nat.reduceAdd, Nat.reduceMul, Nat.reduceSub, Nat.reduceLeDiff, Nat.reduceLT, reduceCtorEq, if_true, eq_self, forall_const, implies_true]
      exact h
  · exact h.elim
def addI (l : List Ra.Rg) (n R : Int) (i : Int) (Y : List (List Int)) : List (List Int) := (Y.filter fun x => decide (sumC l n x + cA l n i ≤ R)).map fun x => x ++ [i]
def allF (l : List Ra.Rg) (n R : Int) : Nat → List (List Int)
  | 0 => [[]]
  | i + 1 => if cA l n (i : Int) = 0 then allF l n R i else allF l n R i ++ addI l n R (i : Int) (allF l n R i)
theorem addI_snoc {l : List Ra.Rg} {n R i : Int} {Y : List (List Int)} {c : Nat} {x : List Int} (h : Y[c]? = some x) : addI l n R i (Y.take (c + 1)) = if sumC l n x + cA l n i ≤ R then addI l n R i (Y.take c) ++ [x ++ [i]] else addI l n R i (Y.take c) := by
  unfold addI
  rw [take_snoc h, List.filter_append, List.map_append]
  by_cases hx : sumC l n x + cA l n i ≤ R <;> simp [hx]
theorem addI_len {l : List Ra.Rg} {n R i : Int} {Y : List (List Int)} : (addI l n R i Y).length ≤ Y.length := by
  unfold addI
  rw [List.length_map]
  exact List.length_filter_le _ _
theorem allF_len (l : List Ra.Rg) (n R : Int) : ∀ i, (allF l n R i).length ≤ 2 ^ i
  | 0 => Nat.le_refl _
  | i + 1 => by
    have h := allF_len l n R i
    have h2 := @addI_len l n R (i : Int) (allF l n R i)
    unfold allF
    rw [Nat.pow_succ]
    split
    · omega
    · rw [List.length_append]; omega
theorem allF_in (l : List Ra.Rg) (n R : Int) : ∀ i, i ≤ l.length → ∀ x ∈ allF l n R i, x.length ≤ i ∧ ∀ j ∈ x, 0 ≤ j ∧ j < l.length
  | 0, _, x, hx => by
    rw [allF, List.mem_singleton] at hx
    subst hx
    exact ⟨Nat.le_refl _, fun j hj => by cases hj⟩
  | i + 1, hi, x, hx => by
    have ih := allF_in l n R i (by omega)
    unfold allF at hx
    have old : x ∈ allF l n R i → x.length ≤ i + 1 ∧ ∀ j ∈ x, 0 ≤ j ∧ j < l.length := fun h => ⟨by have := (ih x h).1; omega, (ih x h).2⟩
    split at hx
    · exact old hx
    · rcases List.mem_append.1 hx with hx | hx
      · exact old hx
      · unfold addI at hx
        obtain ⟨y, hy, rfl⟩ := List.mem_map.1 hx
        have := ih y (List.mem_filter.1 hy).1
        refine ⟨by rw [List.length_append, List.length_singleton]; omega, fun j hj => ?_⟩
        rcases List.mem_append.1 hj with hj | hj
        · exact this.2 j hj
        · rw [List.mem_singleton] at hj; subst hj; omega
def RowsAt (m : Mem) (j : Nat) (cs : List SV) (X : List (List Int)) : Prop := cs.length = X.length ∧ ∀ (c : Nat) (x : List Int), X[c]? = some x → (x = [] ∧ cs[c]? = some (.v (.slice none 0 0))) ∨ ∃ k, k ≠ j ∧ x ≠ [] ∧ cs[c]? = some (.row k 0 x.length 1) ∧ m[k]? = some ⟨true, iL x⟩
theorem RowsAt.ext {m : Mem} {j : Nat} {cs : List SV} {X : List (List Int)} (h : RowsAt m j cs X) (t : Mem) : RowsAt (m ++ t) j cs X := ⟨h.1, fun c x hx => (h.2 c x hx).imp id fun ⟨k, h1, h2, h3, h4⟩ => ⟨k, h1, h2, h3, at_app h4⟩⟩
theorem RowsAt.set {m : Mem} {j : Nat} {cs : List SV} {X : List (List Int)} (h : RowsAt m j cs X) (o : SObj) : RowsAt (m.set j o) j cs X := ⟨h.1, fun c x hx => (h.2 c x hx).imp id fun ⟨k, h1, h2, h3, h4⟩ => ⟨k, h1, h2, h3, by rw [List.getElem?_set_ne (Ne.symm h1)]; exact h4⟩⟩
theorem RowsAt.to {m : Mem} {j j' : Nat} {cs : List SV} {X : List (List Int)} (h : RowsAt m j cs X) (hj : m.length ≤ j') : RowsAt m j' cs X := ⟨h.1, fun c x hx => (h.2 c x hx).imp id fun ⟨k, h1, h2, h3, h4⟩ => ⟨k, by have := (List.getElem?_eq_some_iff.1 h4).1; omega, h2, h3, h4⟩⟩
theorem RowsAt.snoc {m : Mem} {j k : Nat} {cs : List SV} {X : List (List Int)} (h : RowsAt m j cs X) {x : List Int} (hx : x ≠ []) (hk : m[k]? = some ⟨true, iL x⟩) (hkj : k ≠ j) : RowsAt m j (cs ++ [.row k 0 x.length 1]) (X ++ [x]) := by
  refine ⟨by simp [h.1], fun c y hy => ?_⟩
  rcases Nat.lt_or_ge c X.length with hc | hc
  · rw [List.getElem?_append_left hc] at hy
    rcases h.2 c y hy with ⟨h1, h2⟩ | ⟨k', h1, h2, h3, h4⟩
    · exact .inl ⟨h1, by rw [List.getElem?_append_left (by rw [h.1]; exact hc)]; exact h2⟩
    · exact .inr ⟨k', h1, h2, by rw [List.getElem?_append_left (by rw [h.1]; exact hc)]; exact h3, h4⟩
  · rw [List.getElem?_append_right hc] at hy
    have hc0 : c - X.length = 0 := by
      have := (List.getElem?_eq_some_iff.1 hy).1
      simp at this; omega
    rw [hc0] at hy
    simp at hy
    subst hy
    exact .inr ⟨k, hkj, hx, by rw [List.getElem?_append_right (by rw [h.1]; exact hc), h.1, hc0]; rfl, hk⟩
theorem a37 [Inp] {s1 s2 : SV} {l : List Ra.Rg} {ch : List Int} {n : Int} {m : Mem} {k : SV → Mem → Prop} (h1 : rdG m s1 = some l) (h2 : rdI m s2 = some ch) (hl : l.length ≤ 1000) (hc : ch.length ≤ 1000) (hr : ∀ i ∈ ch, 0 ≤ i ∧ i < l.length) : c37 [s1, s2, .v (.int .i64 n)] m k = k (.v (.int .i64 (sumC l n ch))) m := by
  unfold c37
  refine propext ⟨?_, fun hk => ⟨s1, s2, l, ch, n, rfl, h1, h2, hl, hc, hr, hk⟩⟩
  rintro ⟨s1', s2', l', ch', n', e, h1', h2', _, _, _, hk⟩
  injection e with e1 e2
  injection e2 with e2 e3
  injection e3 with e3 _
  injection e3 with e3
  injection e3 with _ e3
  subst e1; subst e2; subst e3
  rw [h1] at h1'; injection h1' with h1'; subst h1'
  rw [h2] at h2'; injection h2' with h2'; subst h2'
  exact hk
theorem v_appk1 {m : Mem} {kk n1 n : Nat} {cs xs : List SV} {y : SV} {K : SV → Mem → Prop} (h : m[kk]? = some ⟨true, cs⟩) :
    Sz.appkK 1 24 (.row kk 0 n1 1) (some (n, xs)) (some (1, [y])) m K = ((cs.length = n ∧ xs.length = n ∧ y.one = true ∧ n + 1 ≤ maxLen ∧ (n + 1) * 24 ≤ 140737488355328) ∧ K (.row m.length 0 (n + 1) 1) (m ++ [⟨true, xs ++ [y]⟩]) ∧ K (.row kk 0 (n + 1) 1) (m.set kk ⟨true, xs ++ [y]⟩)) := by
  unfold Sz.appkK
  simp only [h]
  rw [if_neg (by omega)]
  simp only [Nat.mul_one, isM_no, List.length_cons, List.length_nil, List.all_cons, List.all_nil, Bool.and_true, true_and, and_assoc, Nat.zero_lt_one]
structure S64 where
  m : Mem
  jS : Nat
  jO : Nat
  cA : List SV
  cO : List SV
def I64 (m0 : Mem) (n0 : Nat) (X : List (List Int)) (s : S64) : Prop := s.m[s.jS]? = some ⟨true, s.cA⟩ ∧ s.m[s.jO]? = some ⟨true, s.cO⟩ ∧ RowsAt s.m s.jO s.cO X ∧ n0 ≤ s.cA.length ∧ n0 ≤ X.length ∧ (∀ c, c < n0 → s.cA[c]? = s.cO[c]?) ∧ m0.length ≤ s.jO ∧ ∀ (i : Nat) o, m0[i]? = some o → s.m[i]? = some o
theorem nextA {m0 : Mem} {n0 : Nat} {X : List (List Int)} {s : S64} (h : I64 m0 n0 X s) (T : Mem) {k : Nat} {y : List Int} (hy : y ≠ []) (hk : (s.m ++ T)[k]? = some ⟨true, iL y⟩) :
    I64 m0 n0 (X ++ [y]) ⟨s.m ++ T ++ [⟨true, s.cO ++ [.row k 0 y.length 1]⟩], s.jS, (s.m ++ T).length, s.cA, s.cO ++ [.row k 0 y.length 1]⟩ := by
  obtain ⟨hS, hO, hRo, hnA, hnX, hpre, hj, hold⟩ := h
  have hkl := (List.getElem?_eq_some_iff.1 hk).1
  refine ⟨at_app (at_app hS), by simp only; rw [List.getElem?_append_right (Nat.le_refl _), Nat.sub_self]; rfl, ?_, hnA, by rw [List.length_append]; omega, fun c hc => ?_, ?_, fun i o hi => at_app (at_app (hold i o hi))⟩
  · exact (((hRo.ext T).to (Nat.le_refl _)).ext _).snoc hy (at_app hk) (by omega)
  · rw [hpre c hc, List.getElem?_append_left (by rw [hRo.1]; omega)]
  · have := (List.getElem?_eq_some_iff.1 hO).1
    simp only
    rw [List.length_append]
    omega
theorem nextB {m0 : Mem} {n0 : Nat} {X : List (List Int)} {s : S64} (h : I64 m0 n0 X s) (T : Mem) {k : Nat} {y : List Int} (hy : y ≠ []) (hk : (s.m ++ T)[k]? = some ⟨true, iL y⟩) (hkj : k ≠ s.jO) :
    I64 m0 n0 (X ++ [y]) ⟨(s.m ++ T).set s.jO ⟨true, s.cO ++ [.row k 0 y.length 1]⟩, s.jS, s.jO, if s.jS = s.jO then s.cO ++ [.row k 0 y.length 1] else s.cA, s.cO ++ [.row k 0 y.length 1]⟩ := by
  obtain ⟨hS, hO, hRo, hnA, hnX, hpre, hj, hold⟩ := h
  have hjl := (List.getElem?_eq_some_iff.1 hO).1
  have hset : ((s.m ++ T).set s.jO ⟨true, s.cO ++ [.row k 0 y.length 1]⟩)[s.jO]? = some ⟨true, s.cO ++ [.row k 0 y.length 1]⟩ := by
    rw [List.getElem?_set_self (by rw [List.length_append]; omega)]
  have hpre2 : ∀ c, c < n0 → s.cO[c]? = (s.cO ++ [SV.row k 0 y.length 1])[c]? := fun c hc => by rw [List.getElem?_append_left (by rw [hRo.1]; omega)]
  refine ⟨?_, hset, ?_, ?_, by rw [List.length_append]; omega, fun c hc => ?_, hj, fun i o hi => ?_⟩
  · simp only
    by_cases e : s.jS = s.jO
    · rw [if_pos e, e]; exact hset
    · rw [if_neg e, List.getElem?_set_ne (Ne.symm e)]; exact at_app hS
  · exact ((hRo.ext T).set _).snoc hy (by rw [List.getElem?_set_ne (Ne.symm hkj)]; exact hk) hkj
  · simp only
    split
    · rw [List.length_append, hRo.1]; omega
    · exact hnA
  · simp only
    split
    · rfl
    · rw [hpre c hc]; exact hpre2 c hc
  · simp only
    have := (List.getElem?_eq_some_iff.1 hi).1
    rw [List.getElem?_set_ne (by omega)]
    exact at_app (hold i o hi)
def c64 [Inp] : Trans := fun args m k => ∃ (p : Option Addr) (c : Nat) (l : List Ra.Rg) (b n : Int), args = [.v (.slice p l.length c), .v (.int .i64 b), .v (.int .i64 n)] ∧ inpL p (l.length * 2) = some (rowV gV l) ∧ l.length ≤ 12 ∧
  ∀ (m' : Mem) (j : Nat) (cs : List SV), m'[j]? = some ⟨true, cs⟩ → RowsAt m' j cs (allF l n (room b) l.length) → (∀ (i : Nat) o, m[i]? = some o → m'[i]? = some o) → k (.row j 0 (allF l n (room b) l.length).length 1) m'
def G64 [Inp] : List CEntry := [⟨70, true, c70⟩, ⟨37, true, c37⟩, ⟨96, true, c96⟩]
theorem s64 [Inp] : GOk Try.prog G64 := GOk.cons c70_ok (GOk.cons c37_ok (GOk.cons c96_ok (g0 _)))
theorem c64_ok [I : Inp] : Contract Try.prog 64 false c64 := by
  refine .full fn64 (G := fun J => @G64 J) (fun J => @s64 J) _ fun args m0 k h => ?_
  obtain ⟨p, c, l, b, n, rfl, hin, hmax, hk⟩ := h
  refine ⟨by simp, fun J hJ hat => ?_⟩
  replace hin : @inpL J p (l.length * 2) = some (rowV gV l) := by rw [← hin]; unfold inpL; rw [hat]
  simp (maxSteps := 2000000) -implicitDefEqProofs only [↓x64, ↓r64, s_alt, s_alt20, s_alt2t, s_alt2f, ↓s_loopi, ↓v_pq, ↓PRE, POST, CORE, Nat.reduceDiv, Nat.reduceMod, Int.reduceLT, Int.reduceLE, Int.reduceToNat, Int.reduceAdd, ↓reduceIte, Nat.reduceEqDiff, Nat.reduceAdd, Nat.reduceMul, Nat.reduceSub, Nat.reduceLeDiff, Nat.reduceLT, reduceCtorEq, if_true, eq_self, forall_const, implies_true]
  generalize hR : room b = R at hk
  have hg0 : ∀ (m : Mem) (t : Mem), (m ++ t)[m.length]? = t[0]? := fun m t => by rw [List.getElem?_append_right (Nat.le_refl _), Nat.sub_self]
  refine TXi_of (TX_countM (@s64 J) l.length (fun i s => [(0, .v (.slice p l.length c)), (1, .v (.int .i64 b)), (2, .v (.int .i64 n)), (7, .row s.jO 0 (allF l n R i).length 1), (14, .v (.slice p l.length c)), (15, .v (.int .i64 (l.length : Int))), (16, .v (.int .i64 (i : Int)))]) (fun s => s.m) (fun i s => I64 m0 0 (allF l n R i) s) ⟨m0 ++ [⟨true, [.v (.slice none 0 0)]⟩], m0.length, m0.length, [.v (.slice none 0 0)], [.v (.slice none 0 0)]⟩ ?_ ?_ ?_ ?_)
  · refine ⟨by simp only [hg0]; rfl, by simp only [hg0]; rfl, ⟨rfl, fun c x hx => .inl ?_⟩, by simp, by simp, fun c hc => by omega, Nat.le_refl _, fun i o h => at_app h⟩
    rw [allF] at hx
    cases c with
    | zero => simp at hx; exact ⟨hx, rfl⟩
    | succ c => simp at hx
  · exact ⟨rfl, by simp only [FitS]; simp (maxSteps := 2000000) -implicitDefEqProofs only [allF, List.length_cons, List.length_nil, s_alt, s_alt20, s_alt2t, s_alt2f, ↓s_loopi, ↓v_pq, ↓PRE, POST, CORE, Nat.reduceDiv, Nat.reduceMod, Int.reduceLT, Int.reduceLE, Int.reduceToNat, Int.reduceAdd, ↓reduceIte, Nat.reduceEqDiff, Nat.reduceAdd, Nat.reduceMul, Nat.reduceSub, Nat.reduceLeDiff, Nat.reduceLT, reduceCtorEq, if_true, eq_self, forall_const, implies_true]⟩
  · rintro i ⟨m, jS, jO, dA, dO⟩ hi ⟨_, hO, hRo, _, _, _, hj0, hold⟩
    simp only at hO hRo hj0 hold ⊢
    obtain ⟨r, hrr⟩ : ∃ r, l[i]? = some r := ⟨_, List.getElem?_eq_getElem hi⟩
    have hp : p.isSome = true := inpL_isSome hin (by omega)
    have f : inpL (plusA p (i * 2)) 2 = some [.int .i64 r.fr, .int .i64 r.to] := inp_item gV_len hin rfl hrr
    have i0 : (0 : Int) ≤ (i : Int) := by omega
    have i1 : (i : Int) < (l.length : Int) := by omega
    have w1 : IntKind.i64.wrap ((i : Int) + 1) = (i : Int) + 1 := Sz.w_64 (by omega) (by omega)
    have hci : cA l n (i : Int) = totF r.fr r.to n := cA_at (by rw [Int.toNat_natCast]; exact hrr)
    have hc0 := totF_bd r.fr r.to n
    have hcast : ((i + 1 : Nat) : Int) = (i : Int) + 1 := rfl
    have hlast : ∀ (t : Mem), (m ++ t)[m.length]? = t[0]? := fun t => by rw [List.getElem?_append_right (Nat.le_refl _), Nat.sub_self]
    have hlset : ∀ (t : Mem) (o : SObj), (m ++ t).set m.length o = m ++ t.set 0 o := fun t o => by rw [List.set_append_right _ _ (Nat.le_refl _), Nat.sub_self]
    by_cases hz : totF r.fr r.to n = 0
    · have hzb : (totF r.fr r.to n == 0) = true := by simpa using hz
      have hstep : allF l n R (i + 1) = allF l n R i := by rw [allF, if_pos (by rw [hci]; exact hz)]
      simp (maxSteps := 2000000) -implicitDefEqProofs only [↓G64, ↓a70, i0, i1, hp, f, w1, hzb, hlast, hlset, List.length_append, List.length_cons, List.length_nil, s_alt, s_alt20, s_alt2t, s_alt2f, ↓s_loopi, ↓v_pq, ↓PRE, POST, CORE, Nat.reduceDiv, Nat.reduceMod, Int.reduceLT, Int.reduceLE, Int.reduceToNat, Int.reduceAdd, ↓reduceIte, Nat.reduceEqDiff, Nat.reduceAdd, Nat.reduceMul, Nat.reduceSub, Nat.reduceLeDiff, Nat.reduceLT, reduceCtorEq, if_true, eq_self, forall_const, implies_true]
      rw [hstep]
      exact ⟨⟨m ++ [⟨true, [.v (.int .i64 r.fr), .v (.int .i64 r.to)]⟩], jO, jO, dO, dO⟩, ⟨at_app hO, at_app hO, hRo.ext _, Nat.zero_le _, Nat.zero_le _, fun c _ => rfl, hj0, fun i o h => at_app (hold i o h)⟩, rfl, by simp only [FitS]; simp (maxSteps := 2000000) -implicitDefEqProofs only [hcast, s_alt, s_alt20, s_alt2t, s_alt2f, ↓s_loopi, ↓v_pq, ↓PRE, POST, CORE, Nat.reduceDiv, Nat.reduceMod, Int.reduceLT, Int.reduceLE, Int.reduceToNat, Int.reduceAdd, ↓reduceIte, Nat.reduceEqDiff, Nat.reduceAdd, Nat.reduceMul, Nat.reduceSub, Nat.reduceLeDiff, Nat.reduceLT, reduceCtorEq, if_true, eq_self, forall_const, implies_true]⟩
    · have hzb : (totF r.fr r.to n == 0) = false := by simpa using hz
      simp (maxSteps := 2000000) -implicitDefEqProofs only [↓G64, ↓a70, i0, i1, hp, f, w1, hzb, hlast, hlset, List.length_append, List.length_cons, List.length_nil, s_alt, s_alt20, s_alt2t, s_alt2f, ↓s_loopi, ↓v_pq, ↓PRE, POST, CORE, Nat.reduceDiv, Nat.reduceMod, Int.reduceLT, Int.reduceLE, Int.reduceToNat, Int.reduceAdd, ↓reduceIte, Nat.reduceEqDiff, Nat.reduceAdd, Nat.reduceMul, Nat.reduceSub, Nat.reduceLeDiff, Nat.reduceLT, reduceCtorEq, if_true, eq_self, forall_const, implies_true]
      have hstep : allF l n R (i + 1) = allF l n R i ++ addI l n R (i : Int) (allF l n R i) := by rw [allF, if_neg (by rw [hci]; exact hz)]
      have hlen := allF_len l n R i
      have hpow : 2 ^ i ≤ 4096 := Nat.le_trans (Nat.pow_le_pow_right (by omega) (show i ≤ 12 by omega)) (by decide)
      have hin2 := allF_in l n R i (by omega)
      rw [hstep]
      generalize allF l n R i = X0 at hRo hlen hin2 ⊢
      have hO1 : (m ++ [⟨true, [.v (.int .i64 r.fr), .v (.int .i64 r.to)]⟩])[jO]? = some ⟨true, dO⟩ := at_app hO
      have hRo1 : RowsAt (m ++ [⟨true, [.v (.int .i64 r.fr), .v (.int .i64 r.to)]⟩]) jO dO X0 := hRo.ext _
      have hold1 : ∀ (i : Nat) o, m0[i]? = some o → (m ++ [⟨true, [.v (.int .i64 r.fr), .v (.int .i64 r.to)]⟩])[i]? = some o := fun i o h => at_app (hold i o h)
      generalize m ++ [⟨true, [.v (.int .i64 r.fr), .v (.int .i64 r.to)]⟩] = m1 at hO1 hRo1 hold1 ⊢
      clear hO hRo hold hlast hlset
      generalize hcv : totF r.fr r.to n = cv at *
      refine TXi_of (TX_countM (@s64 J) X0.length (fun c' s => [(0, .v (.slice p l.length c)), (1, .v (.int .i64 b)), (2, .v (.int .i64 n)), (7, .row s.jO 0 (X0 ++ addI l n R (i : Int) (X0.take c')).length 1), (8, .v (.int .i64 (i : Int))), (10, .v (.int .i64 cv)), (14, .v (.slice p l.length c)), (15, .v (.int .i64 (l.length : Int))), (16, .v (.int .i64 (i : Int))), (26, .row s.jS 0 X0.length 1), (27, .v (.int .i64 (X0.length : Int))), (28, .v (.int .i64 (c' : Int)))]) (fun s => s.m) (fun c' s => I64 m0 X0.length (X0 ++ addI l n R (i : Int) (X0.take c')) s) ⟨m1, jO, jO, dO, dO⟩ ?_ ?_ ?_ ?_)
      · have e0 : addI l n R (i : Int) (X0.take 0) = [] := rfl
        rw [e0, List.append_nil]
        exact ⟨hO1, hO1, hRo1, by rw [hRo1.1]; exact Nat.le_refl _, Nat.le_refl _, fun c _ => rfl, hj0, hold1⟩
      · have e0 : addI l n R (i : Int) (X0.take 0) = [] := rfl
        rw [e0, List.append_nil]
        exact ⟨rfl, by simp only [FitS]; simp (maxSteps := 2000000) -implicitDefEqProofs only [s_alt, s_alt20, s_alt2t, s_alt2f, ↓s_loopi, ↓v_pq, ↓PRE, POST, CORE, Nat.reduceDiv, Nat.reduceMod, Int.reduceLT, Int.reduceLE, Int.reduceToNat, Int.reduceAdd, ↓reduceIte, Nat.reduceEqDiff, Nat.reduceAdd, Nat.reduceMul, Nat.reduceSub, Nat.reduceLeDiff, Nat.reduceLT, reduceCtorEq, if_true, eq_self, forall_const, implies_true]⟩
      · rintro c' ⟨m2, jS, jO2, dA, dO2⟩ hc' ⟨hS, hO, hRo, hnA, hnX, hpre, hj2, hold⟩
        simp only at hS hO hRo hnA hnX hpre hj2 hold ⊢
        obtain ⟨x, hx⟩ : ∃ x, X0[c']? = some x := ⟨_, List.getElem?_eq_getElem hc'⟩
        rw [addI_snoc hx, hci]
        have hxin := hin2 x (List.mem_of_getElem? hx)
        have hY : (addI l n R (i : Int) (X0.take c')).length ≤ 4096 := by
          have := @addI_len l n R (i : Int) (X0.take c')
          rw [List.length_take] at this
          omega
        generalize addI l n R (i : Int) (X0.take c') = Y at hRo hnX hY ⊢
        have hxX : (X0 ++ Y)[c']? = some x := by rw [List.getElem?_append_left hc']; exact hx
        have c0 : (0 : Int) ≤ (c' : Int) := by omega
        have c1 : (c' : Int) < (X0.length : Int) := by omega
        have w2 : IntKind.i64.wrap ((c' : Int) + 1) = (c' : Int) + 1 := Sz.w_64 (by omega) (by omega)
        have hsb := sumC_bd l n x
        have w3 : IntKind.i64.wrap (sumC l n x + cv) = sumC l n x + cv := Sz.w_64 (by omega) (by omega)
        have hcast2 : ((c' + 1 : Nat) : Int) = (c' : Int) + 1 := rfl
        have hrd := hRo.2 c' x hxX
        have hp2 := hpre c' hc'
        have hl0 : ∀ (t : Mem), (m2 ++ t)[m2.length]? = t[0]? := fun t => by rw [List.getElem?_append_right (Nat.le_refl _), Nat.sub_self]
        have hl1 : ∀ (t : Mem), (m2 ++ t)[m2.length + 1]? = t[1]? := fun t => by rw [List.getElem?_append_right (by omega), show m2.length + 1 - m2.length = 1 by omega]
        have hl2 : ∀ (t : Mem), (m2 ++ t)[m2.length + 2]? = t[2]? := fun t => by rw [List.getElem?_append_right (by omega), show m2.length + 2 - m2.length = 2 by omega]
        have hl3 : ∀ (t : Mem), (m2 ++ t)[m2.length + 3]? = t[3]? := fun t => by rw [List.getElem?_append_right (by omega), show m2.length + 3 - m2.length = 3 by omega]
        have hl4 : ∀ (t : Mem), (m2 ++ t)[m2.length + 4]? = t[4]? := fun t => by rw [List.getElem?_append_right (by omega), show m2.length + 4 - m2.length = 4 by omega]
        have hs0 : ∀ (t : Mem) (o : SObj), (m2 ++ t).set m2.length o = m2 ++ t.set 0 o := fun t o => by rw [List.set_append_right _ _ (Nat.le_refl _), Nat.sub_self]
        have hs1 : ∀ (t : Mem) (o : SObj), (m2 ++ t).set (m2.length + 1) o = m2 ++ t.set 1 o := fun t o => by rw [List.set_append_right _ _ (by omega), show m2.length + 1 - m2.length = 1 by omega]
        have hjO : ∀ (t : Mem), (m2 ++ t)[jO2]? = some ⟨true, dO2⟩ := fun t => at_app hO
        have hdl : dO2.length = X0.length + Y.length := by rw [hRo.1, List.length_append]
        have hdt : dO2.take (X0.length + Y.length) = dO2 := List.take_of_length_le (by omega)
        rcases hrd with ⟨hx0, hcell⟩ | ⟨k, hkj, hxne, hcell, hkx⟩
        · rw [hcell] at hp2
          have A37 : ∀ (K : SV → Mem → Prop), c37 [.v (.slice p l.length c), .v (.slice none 0 0), .v (.int .i64 n)] m2 K = K (.v (.int .i64 (sumC l n x))) m2 := fun K => a37 (rdG_v hin) (by rw [hx0]; rfl) (by omega) (by omega) hxin.2
          by_cases hle : sumC l n x + cv ≤ R
          · rw [if_pos hle]
            simp (maxSteps := 2000000) -implicitDefEqProofs only [↓G64, ↓A37, ↓a96, c0, c1, hS, hp2, w2, w3, hR, hle, hl0, hl1, hl2, hl3, hs0, hs1, hjO, inp00, Option.map_some, List.map_nil, Sz.s_appk, List.append_assoc, List.length_append, List.length_cons, List.length_nil, List.set_cons_zero, List.set_cons_succ, hdl, hdt, s_alt, s_alt20, s_alt2t, s_alt2f, ↓s_loopi, ↓v_pq, ↓PRE, POST, CORE, Nat.reduceDiv, Nat.reduceMod, Int.reduceLT, Int.reduceLE, Int.reduceToNat, Int.reduceAdd, ↓reduceIte, Nat.reduceEqDiff, Nat.reduceAdd, Nat.reduceMul, Nat.reduceSub, Nat.reduceLeDiff, Nat.reduceLT, reduceCtorEq, if_true, eq_self, forall_const, implies_true]
            have hy : x ++ [(i : Int)] ≠ [] := by simp
            have hinv : I64 m0 X0.length (X0 ++ Y) ⟨m2, jS, jO2, dA, dO2⟩ := ⟨hS, hO, hRo, hnA, hnX, hpre, hj2, hold⟩
            have hjl := (List.getElem?_eq_some_iff.1 hO).1
            refine ⟨by unfold maxLen; omega, ?_⟩
            rw [v_appk1 (hjO _)]
            refine ⟨⟨hdl, hdl, rfl, by unfold maxLen; omega, by omega⟩, ?_, ?_⟩
            · have hN := nextA hinv [⟨false, []⟩, ⟨true, [.v (.int .i64 (i : Int))]⟩, ⟨true, [.v (.int .i64 (i : Int))]⟩, ⟨true, [.row (m2.length + 2) 0 1 1]⟩] (k := m2.length + 2) hy (by simp only [hl2]; rw [hx0]; rfl)
              have hyl : (x ++ [(i : Int)]).length = 1 := by rw [hx0]; rfl
              rw [hyl] at hN
              refine ⟨_, by rw [← List.append_assoc]; exact hN, rfl, ?_⟩
              simp only [FitS]
              simp (maxSteps := 2000000) -implicitDefEqProofs only [hcast2, List.length_append, List.length_cons, List.length_nil, s_alt, s_alt20, s_alt2t, s_alt2f, ↓s_loopi, ↓v_pq, ↓PRE, POST, CORE, Nat.reduceDiv, Nat.reduceMod, Int.reduceLT, Int.reduceLE, Int.reduceToNat, Int.reduceAdd, ↓reduceIte, Nat.reduceEqDiff, Nat.reduceAdd, Nat.reduceMul, Nat.reduceSub, Nat.reduceLeDiff, Nat.reduceLT, reduceCtorEq, if_true, eq_self, forall_const, implies_true]
              rw [Nat.add_assoc]
            · have hN := nextB hinv [⟨false, []⟩, ⟨true, [.v (.int .i64 (i : Int))]⟩, ⟨true, [.v (.int .i64 (i : Int))]⟩, ⟨true, [.row (m2.length + 2) 0 1 1]⟩] (k := m2.length + 2) hy (by simp only [hl2]; rw [hx0]; rfl) (by simp only; omega)
              have hyl : (x ++ [(i : Int)]).length = 1 := by rw [hx0]; rfl
              rw [hyl] at hN
              refine ⟨_, by rw [← List.append_assoc]; exact hN, rfl, ?_⟩
              simp only [FitS]
              simp (maxSteps := 2000000) -implicitDefEqProofs only [hcast2, s_alt, s_alt20, s_alt2t, s_alt2f, ↓s_loopi, ↓v_pq, ↓PRE, POST, CORE, Nat.reduceDiv, Nat.reduceMod, Int.reduceLT, Int.reduceLE, Int.reduceToNat, Int.reduceAdd, ↓reduceIte, Nat.reduceEqDiff, Nat.reduceAdd, Nat.reduceMul, Nat.reduceSub, Nat.reduceLeDiff, Nat.reduceLT, reduceCtorEq, if_true, eq_self, forall_const, implies_true]
              rw [Nat.add_assoc]
          · rw [if_neg hle]
            simp (maxSteps := 2000000) -implicitDefEqProofs only [↓G64, ↓A37, ↓a96, c0, c1, hS, hp2, w2, w3, hR, hle, s_alt, s_alt20, s_alt2t, s_alt2f, ↓s_loopi, ↓v_pq, ↓PRE, POST, CORE, Nat.reduceDiv, Nat.reduceMod, Int.reduceLT, Int.reduceLE, Int.reduceToNat, Int.reduceAdd, ↓reduceIte, Nat.reduceEqDiff, Nat.reduceAdd, Nat.reduceMul, Nat.reduceSub, Nat.reduceLeDiff, Nat.reduceLT, reduceCtorEq, if_true, eq_self, forall_const, implies_true]
            exact ⟨⟨m2, jS, jO2, dA, dO2⟩, ⟨hS, hO, hRo, hnA, hnX, hpre, hj2, hold⟩, rfl, by simp only [FitS]; simp (maxSteps := 2000000) -implicitDefEqProofs only [hcast2, s_alt, s_alt20, s_alt2t, s_alt2f, ↓s_loopi, ↓v_pq, ↓PRE, POST, CORE, Nat.reduceDiv, Nat.reduceMod, Int.reduceLT, Int.reduceLE, Int.reduceToNat, Int.reduceAdd, ↓reduceIte, Nat.reduceEqDiff, Nat.reduceAdd, Nat.reduceMul, Nat.reduceSub, Nat.reduceLeDiff, Nat.reduceLT, reduceCtorEq, if_true, eq_self, forall_const, implies_true]⟩
        · rw [hcell] at hp2
          have hkx' : ∀ (t : Mem), (m2 ++ t)[k]? = some ⟨true, iL x⟩ := fun t => at_app hkx
          have hxl : x.length ≠ 0 := fun e => hxne (List.length_eq_zero_iff.1 e)
          have hxp : 0 < x.length := by omega
          have hxt : (iL x).take x.length = iL x := List.take_of_length_le (by rw [iL_len]; exact Nat.le_refl _)
          have A37 : ∀ (K : SV → Mem → Prop), c37 [.v (.slice p l.length c), .row k 0 x.length 1, .v (.int .i64 n)] m2 K = K (.v (.int .i64 (sumC l n x))) m2 := fun K => a37 (rdG_v hin) (rdI_r hkx) (by omega) (by omega) hxin.2
          by_cases hle : sumC l n x + cv ≤ R
          · rw [if_pos hle]
            have hm1 : x.length ≤ maxLen := by unfold maxLen; omega
            have hm2 : x.length + 1 ≤ maxLen := by unfold maxLen; omega
            have hb1 : x.length * 8 ≤ 140737488355328 := by omega
            have hb2 : (x.length + 1) * 8 ≤ 140737488355328 := by omega
            have hx1 : (iL x).all SV.one = true := iL_one
            simp (maxSteps := 2000000) -implicitDefEqProofs only [↓G64, ↓A37, ↓a96, c0, c1, hS, hp2, w2, w3, hR, hle, hl0, hl1, hl2, hl3, hl4, hs0, hs1, hjO, hkx', inp00, Option.map_some, List.map_nil, Sz.s_appk, List.append_assoc, List.length_append, List.length_cons, List.length_nil, List.set_cons_zero, List.set_cons_succ, hdl, hdt, hxl, hxp, hxt, hx1, iL_len, Nat.mul_one, Nat.zero_add, List.drop_zero, Nat.le_refl, hm1, hm2, hb1, hb2, List.nil_append, s_alt, s_alt20, s_alt2t, s_alt2f, ↓s_loopi, ↓v_pq, ↓PRE, POST, CORE, Nat.reduceDiv, Nat.reduceMod, Int.reduceLT, Int.reduceLE, Int.reduceToNat, Int.reduceAdd, ↓reduceIte, Nat.reduceEqDiff, Nat.reduceAdd, Nat.reduceMul, Nat.reduceSub, Nat.reduceLeDiff, Nat.reduceLT, reduceCtorEq, if_true, eq_self, forall_const, implies_true]
            have hy : x ++ [(i : Int)] ≠ [] := by simp
            have hinv : I64 m0 X0.length (X0 ++ Y) ⟨m2, jS, jO2, dA, dO2⟩ := ⟨hS, hO, hRo, hnA, hnX, hpre, hj2, hold⟩
            have hjl := (List.getElem?_eq_some_iff.1 hO).1
            have hyl : (x ++ [(i : Int)]).length = x.length + 1 := by rw [List.length_append]; rfl
            have hsn : iL x ++ [.v (.int .i64 (i : Int))] = iL (x ++ [(i : Int)]) := iL_snoc
            rw [v_appk1 (hjO _)]
            refine ⟨⟨hdl, hdl, rfl, by unfold maxLen; omega, by omega⟩, ?_, ?_⟩
            · have hN := nextA hinv [⟨false, []⟩, ⟨false, []⟩, ⟨true, [.v (.int .i64 (i : Int))]⟩, ⟨true, iL x ++ [.v (.int .i64 (i : Int))]⟩, ⟨true, [.row (m2.length + 3) 0 (x.length + 1) 1]⟩] (k := m2.length + 3) hy (by simp only [hl3]; rw [← hsn]; rfl)
              rw [hyl] at hN
              refine ⟨_, by rw [← List.append_assoc]; exact hN, rfl, ?_⟩
              simp only [FitS]
              simp (maxSteps := 2000000) -implicitDefEqProofs only [hcast2, List.length_append, List.length_cons, List.length_nil, s_alt, s_alt20, s_alt2t, s_alt2f, ↓s_loopi, ↓v_pq, ↓PRE, POST, CORE, Nat.reduceDiv, Nat.reduceMod, Int.reduceLT, Int.reduceLE, Int.reduceToNat, Int.reduceAdd, ↓reduceIte, Nat.reduceEqDiff, Nat.reduceAdd, Nat.reduceMul, Nat.reduceSub, Nat.reduceLeDiff, Nat.reduceLT, reduceCtorEq, if_true, eq_self, forall_const, implies_true]
              rw [Nat.add_assoc]
            · have hN := nextB hinv [⟨false, []⟩, ⟨false, []⟩, ⟨true, [.v (.int .i64 (i : Int))]⟩, ⟨true, iL x ++ [.v (.int .i64 (i : Int))]⟩, ⟨true, [.row (m2.length + 3) 0 (x.length + 1) 1]⟩] (k := m2.length + 3) hy (by simp only [hl3]; rw [← hsn]; rfl) (by simp only; omega)
              rw [hyl] at hN
              refine ⟨_, by rw [← List.append_assoc]; exact hN, rfl, ?_⟩
              simp only [FitS]
              simp (maxSteps := 2000000) -implicitDefEqProofs only [hcast2, s_alt, s_alt20, s_alt2t, s_alt2f, ↓s_loopi, ↓v_pq, ↓PRE, POST, CORE, Nat.reduceDiv, Nat.reduceMod, Int.reduceLT, Int.reduceLE, Int.reduceToNat, Int.reduceAdd, ↓reduceIte, Nat.reduceEqDiff, Nat.reduceAdd, Nat.reduceMul, Nat.reduceSub, Nat.reduceLeDiff, Nat.reduceLT, reduceCtorEq, if_true, eq_self, forall_const, implies_true]
              rw [Nat.add_assoc]
          · rw [if_neg hle]
            simp (maxSteps := 2000000) -implicitDefEqProofs only [↓G64, ↓A37, ↓a96, c0, c1, hS, hp2, w2, w3, hR, hle, s_alt, s_alt20, s_alt2t, s_alt2f, ↓s_loopi, ↓v_pq, ↓PRE, POST, CORE, Nat.reduceDiv, Nat.reduceMod, Int.reduceLT, Int.reduceLE, Int.reduceToNat, Int.reduceAdd, ↓reduceIte, Nat.reduceEqDiff, Nat.reduceAdd, Nat.reduceMul, Nat.reduceSub, Nat.reduceLeDiff, Nat.reduceLT, reduceCtorEq, if_true, eq_self, forall_const, implies_true]
            exact ⟨⟨m2, jS, jO2, dA, dO2⟩, ⟨hS, hO, hRo, hnA, hnX, hpre, hj2, hold⟩, rfl, by simp only [FitS]; simp (maxSteps := 2000000) -implicitDefEqProofs only [hcast2, s_alt, s_alt20, s_alt2t, s_alt2f, ↓s_loopi, ↓v_pq, ↓PRE, POST, CORE, Nat.reduceDiv, Nat.reduceMod, Int.reduceLT, Int.reduceLE, Int.reduceToNat, Int.reduceAdd, ↓reduceIte, Nat.reduceEqDiff, Nat.reduceAdd, Nat.reduceMul, Nat.reduceSub, Nat.reduceLeDiff, Nat.reduceLT, reduceCtorEq, if_true, eq_self, forall_const, implies_true]⟩
      · rintro ⟨m2, jS, jO2, dA, dO2⟩ ⟨hS, hO, hRo, hnA, hnX, hpre, hj2, hold⟩
        simp only at hS hO hRo hnA hnX hpre hj2 hold ⊢
        have j1 : ¬ (X0.length : Int) < (X0.length : Int) := by omega
        simp (maxSteps := 2000000) -implicitDefEqProofs only [j1, w1, s_alt, s_alt20, s_alt2t, s_alt2f, ↓s_loopi, ↓v_pq, ↓PRE, POST, CORE, Nat.reduceDiv, Nat.reduceMod, Int.reduceLT, Int.reduceLE, Int.reduceToNat, Int.reduceAdd, ↓reduceIte, Nat.reduceEqDiff, Nat.reduceAdd, Nat.reduceMul, Nat.reduceSub, Nat.reduceLeDiff, Nat.reduceLT, reduceCtorEq, if_true, eq_self, forall_const, implies_true]
        rw [List.take_length] at hRo ⊢
        exact ⟨⟨m2, jO2, jO2, dO2, dO2⟩, ⟨hO, hO, hRo, Nat.zero_le _, Nat.zero_le _, fun c _ => rfl, hj2, hold⟩, rfl, by simp only [FitS]; simp (maxSteps := 2000000) -implicitDefEqProofs only [hcast, s_alt, s_alt20, s_alt2t, s_alt2f, ↓s_loopi, ↓v_pq, ↓PRE, POST, CORE, Nat.reduceDiv, Nat.reduceMod, Int.reduceLT, Int.reduceLE, Int.reduceToNat, Int.reduceAdd, ↓reduceIte, Nat.reduceEqDiff, Nat.reduceAdd, Nat.reduceMul, Nat.reduceSub, Nat.reduceLeDiff, Nat.reduceLT, reduceCtorEq, if_true, eq_self, forall_const, implies_true]⟩
  · intro s hI
    have j1 : ¬ (l.length : Int) < (l.length : Int) := by omega
    simp (maxSteps := 2000000) -implicitDefEqProofs only [j1, s_alt, s_alt20, s_alt2t, s_alt2f, ↓s_loopi, ↓v_pq, ↓PRE, POST, CORE, Nat.reduceDiv, Nat.reduceMod, Int.reduceLT, Int.reduceLE, Int.reduceToNat, Int.reduceAdd, ↓reduceIte, Nat.reduceEqDiff, Nat.reduceAdd, Nat.reduceMul, Nat.reduceSub, Nat.reduceLeDiff, Nat.reduceLT, reduceCtorEq, if_true, eq_self, forall_const, implies_true]
    exact hk _ _ _ hI.2.1 hI.2.2.1 hI.2.2.2.2.2.2.2
end Qu
end Go.Proofs.Ytcejgadbpahbmaa
end
section
namespace Go.Proofs.Ytcejgadbpahbmaa
open Go.RowKit Sz
set_option maxHeartbeats 16000000
set_option maxRecDepth 20000
namespace Qu
open Rc
-- almshouse/almshouseref41.ahead (2 parameters)
def x65 : XC := (.seq (.tree (.seq ⟨some 4, none, (.ofA (.mv (.cst (.v (.bool false)))))⟩
 .done))
 (.seq (.seq (.tree (.seq ⟨some 6, none, (.ofA (.mv (.tmp 0)))⟩
 (.seq ⟨some 7, none, (.ofA (.len (.tmp 6)))⟩
 (.seq ⟨some 8, none, (.ofA (.mv (.cst (.v (.int .i64 0)))))⟩
 .done))))
 (.block 0 (.loop (.seq (.tree (.seq ⟨some 9, none, (.ofA (.bin .lss (.tmp 8) (.tmp 7)))⟩
 .done))
 (.seq (.cond (.tmp 9)
 .skip
 (.exit 0))
 (.seq (.block 1 (.seq (.tree (.seq ⟨some 10, none, (.ofA (.mv (.tmp 8)))⟩
 (.seq ⟨some 5, none, (.ofA (.mv (.tmp 10)))⟩
 .done)))
 (.seq (.tree (.take ⟨some 11, none, (.ofA (.mv (.tmp 0)))⟩
 (.take ⟨some 12, none, (.ofA (.mv (.tmp 5)))⟩
 (.take ⟨some 13, none, (.ofA (.isl 1 (.tmp 11) (.tmp 12)))⟩
 (.take ⟨some 14, none, (.ofA (.load none (.tmp 13)))⟩
 (.take ⟨some 15, none, (.ofA (.mv (.tmp 1)))⟩
 (.take ⟨some 16, none, (.ofA (.mv (.tmp 5)))⟩
 (.take ⟨some 17, none, (.ofA (.isl 1 (.tmp 15) (.tmp 16)))⟩
 (.take ⟨some 18, none, (.ofA (.load none (.tmp 17)))⟩
 (.take ⟨some 19, none, (.ofA (.bin .neq (.tmp 14) (.tmp 18)))⟩
 .done))))))))))
 (.cond (.tmp 19)
 (.seq (.tree (.take ⟨some 20, none, (.ofA (.mv (.tmp 0)))⟩
 (.take ⟨some 21, none, (.ofA (.mv (.tmp 5)))⟩
 (.take ⟨some 22, none, (.ofA (.isl 1 (.tmp 20) (.tmp 21)))⟩
 (.take ⟨some 23, none, (.ofA (.load none (.tmp 22)))⟩
 (.take ⟨some 24, none, (.ofA (.mv (.tmp 1)))⟩
 (.take ⟨some 25, none, (.ofA (.mv (.tmp 5)))⟩
 (.take ⟨some 26, none, (.ofA (.isl 1 (.tmp 24) (.tmp 25)))⟩
 (.take ⟨some 27, none, (.ofA (.load none (.tmp 26)))⟩
 (.take ⟨some 28, none, (.ofA (.bin .lss (.tmp 23) (.tmp 27)))⟩
 (.take ⟨some 4, none, (.ofA (.mv (.tmp 28)))⟩
 .done)))))))))))
 .ret)
 .skip))))
 (.tree (.seq ⟨some 29, none, (.ofA (.bin .add (.tmp 8) (.cst (.v (.int .i64 1)))))⟩
 (.seq ⟨some 8, none, (.ofA (.mv (.tmp 29)))⟩
 .done)))))))))
 (.seq (.tree (.seq ⟨some 4, none, (.ofA (.mv (.cst (.v (.bool false)))))⟩
 .done))
 .ret)))
def r65 : List XR := [.tmp 4]
theorem fn65 : FnX Try.prog 65 [82, 68, 97, 118, 64] 30 x65 r65 := ⟨_, Try.func65, by kernel_rfl, by kernel_rfl, by kernel_rfl, by kernel_rfl⟩
-- almshouse/almshouselaw41.same (2 parameters)
def x31 : XC := (.seq (.tree (.seq ⟨some 4, none, (.ofA (.mv (.cst (.v (.bool false)))))⟩
 .done))
 (.seq (.seq (.tree (.seq ⟨some 6, none, (.ofA (.mv (.tmp 0)))⟩
 (.seq ⟨some 7, none, (.ofA (.len (.tmp 6)))⟩
 (.seq ⟨some 8, none, (.ofA (.mv (.tmp 1)))⟩
 (.seq ⟨some 9, none, (.ofA (.len (.tmp 8)))⟩
 (.seq ⟨some 10, none, (.ofA (.bin .neq (.tmp 7) (.tmp 9)))⟩
 .done))))))
 (.cond (.tmp 10)
 (.seq (.tree (.seq ⟨some 4, none, (.ofA (.mv (.cst (.v (.bool false)))))⟩
 .done))
 .ret)
 .skip))
 (.seq (.seq (.tree (.seq ⟨some 11, none, (.ofA (.mv (.tmp 0)))⟩
 (.seq ⟨some 12, none, (.ofA (.len (.tmp 11)))⟩
 (.seq ⟨some 13, none, (.ofA (.mv (.cst (.v (.int .i64 0)))))⟩
 .done))))
 (.block 0 (.loop (.seq (.tree (.seq ⟨some 14, none, (.ofA (.bin .lss (.tmp 13) (.tmp 12)))⟩
 .done))
 (.seq (.cond (.tmp 14)
 .skip
 (.exit 0))
 (.seq (.block 1 (.seq (.tree (.seq ⟨some 15, none, (.ofA (.mv (.tmp 13)))⟩
 (.seq ⟨some 5, none, (.ofA (.mv (.tmp 15)))⟩
 .done)))
 (.seq (.tree (.take ⟨some 16, none, (.ofA (.mv (.tmp 0)))⟩
 (.take ⟨some 17, none, (.ofA (.mv (.tmp 5)))⟩
 (.take ⟨some 18, none, (.ofA (.isl 1 (.tmp 16) (.tmp 17)))⟩
 (.take ⟨some 19, none, (.ofA (.load none (.tmp 18)))⟩
 (.take ⟨some 20, none, (.ofA (.mv (.tmp 1)))⟩
 (.take ⟨some 21, none, (.ofA (.mv (.tmp 5)))⟩
 (.take ⟨some 22, none, (.ofA (.isl 1 (.tmp 20) (.tmp 21)))⟩
 (.take ⟨some 23, none, (.ofA (.load none (.tmp 22)))⟩
 (.take ⟨some 24, none, (.ofA (.bin .neq (.tmp 19) (.tmp 23)))⟩
 .done))))))))))
 (.cond (.tmp 24)
 (.seq (.tree (.seq ⟨some 4, none, (.ofA (.mv (.cst (.v (.bool false)))))⟩
 .done))
 .ret)
 .skip))))
 (.tree (.seq ⟨some 25, none, (.ofA (.bin .add (.tmp 13) (.cst (.v (.int .i64 1)))))⟩
 (.seq ⟨some 13, none, (.ofA (.mv (.tmp 25)))⟩
 .done)))))))))
 (.seq (.tree (.seq ⟨some 4, none, (.ofA (.mv (.cst (.v (.bool true)))))⟩
 .done))
 .ret))))
def r31 : List XR := [.tmp 4]
theorem fn31 : FnX Try.prog 31 [82, 68, 97, 118, 64] 26 x31 r31 := ⟨_, Try.func31, by kernel_rfl, by kernel_rfl, by kernel_rfl, by kernel_rfl⟩
-- almshouse/almshouseref41.Fullest (3 parameters)
def x33 : XC := (.seq (.tree (.seq ⟨some 6, none, (.ofA (.mv (.cst (.v (.slice none 0 0)))))⟩
 .done))
 (.seq (.seq (.tree (.seq ⟨some 12, none, (.ofA (.mv (.tmp 0)))⟩
 (.seq ⟨some 13, none, (.ofA (.len (.tmp 12)))⟩
 (.seq ⟨some 14, none, (.ofA (.bin .gtr (.tmp 13) (.cst (.v (.int .i64 12)))))⟩
 .done))))
 (.cond (.tmp 14)
 (.seq (.tree (.seq ⟨some 6, none, (.ofA (.mv (.cst (.v (.slice none 0 0)))))⟩
 .done))
 .ret)
 .skip))
 (.seq (.tree (.seq ⟨some 7, none, (.ofA (.mv (.cst (.v (.slice none 0 0)))))⟩
 .done))
 (.seq (.seq (.tree (.seq ⟨some 15, none, (.ofA (.mv (.tmp 0)))⟩
 (.seq ⟨some 16, none, (.ofA (.mv (.tmp 1)))⟩
 (.seq ⟨some 17, none, (.ofA (.mv (.tmp 2)))⟩
 (.seq ⟨some 18, none, (.call (.cst (.fn 64 [])) [(.tmp 15), (.tmp 16), (.tmp 17)])⟩
 (.seq ⟨some 19, none, (.ofA (.len (.tmp 18)))⟩
 (.seq ⟨some 20, none, (.ofA (.mv (.cst (.v (.int .i64 0)))))⟩
 .done)))))))
 (.block 0 (.loop (.seq (.tree (.seq ⟨some 21, none, (.ofA (.bin .lss (.tmp 20) (.tmp 19)))⟩
 .done))
 (.seq (.cond (.tmp 21)
 .skip
 (.exit 0))
 (.seq (.block 1 (.seq (.tree (.seq ⟨some 22, none, (.ofA (.isl 1 (.tmp 18) (.tmp 20)))⟩
 (.seq ⟨some 23, none, (.ofA (.load none (.tmp 22)))⟩
 (.seq ⟨some 9, none, (.ofA (.mv (.tmp 23)))⟩
 .done))))
 (.seq (.tree (.seq ⟨some 24, none, (.ofA (.mv (.tmp 0)))⟩
 (.seq ⟨some 25, none, (.ofA (.mv (.tmp 9)))⟩
 (.seq ⟨some 26, none, (.ofA (.mv (.tmp 2)))⟩
 (.seq ⟨some 27, none, (.call (.cst (.fn 37 [])) [(.tmp 24), (.tmp 25), (.tmp 26)])⟩
 (.seq ⟨some 28, none, (.ofA (.mv (.tmp 0)))⟩
 (.seq ⟨some 29, none, (.ofA (.mv (.tmp 7)))⟩
 (.seq ⟨some 30, none, (.ofA (.mv (.tmp 2)))⟩
 (.seq ⟨some 31, none, (.call (.cst (.fn 37 [])) [(.tmp 28), (.tmp 29), (.tmp 30)])⟩
 (.seq ⟨some 10, none, (.ofA (.mv (.tmp 27)))⟩
 (.seq ⟨some 11, none, (.ofA (.mv (.tmp 31)))⟩
 .done)))))))))))
 (.seq (.tree (.seq ⟨some 32, none, (.ofA (.mv (.tmp 10)))⟩
 (.seq ⟨some 33, none, (.ofA (.mv (.tmp 11)))⟩
 (.seq ⟨some 34, none, (.ofA (.bin .gtr (.tmp 32) (.tmp 33)))⟩
 (.seq ⟨some 35, none, (.ofA (.mv (.tmp 34)))⟩
 (.seq ⟨some 36, some (35, false), (.ofA (.mv (.tmp 10)))⟩
 (.seq ⟨some 37, some (35, false), (.ofA (.mv (.tmp 11)))⟩
 (.seq ⟨some 38, some (35, false), (.ofA (.bin .eql (.tmp 36) (.tmp 37)))⟩
 (.seq ⟨some 39, some (35, false), (.ofA (.mv (.tmp 38)))⟩
 (.seq ⟨some 40, some (39, true), (.ofA (.mv (.tmp 9)))⟩
 (.seq ⟨some 41, some (39, true), (.ofA (.len (.tmp 40)))⟩
 (.seq ⟨some 42, some (39, true), (.ofA (.mv (.tmp 7)))⟩
 (.seq ⟨some 43, some (39, true), (.ofA (.len (.tmp 42)))⟩
 (.seq ⟨some 44, some (39, true), (.ofA (.bin .lss (.tmp 41) (.tmp 43)))⟩
 (.seq ⟨some 45, some (39, true), (.ofA (.mv (.tmp 44)))⟩
 (.seq ⟨some 46, some (45, false), (.ofA (.mv (.tmp 9)))⟩
 (.seq ⟨some 47, some (45, false), (.ofA (.len (.tmp 46)))⟩
 (.seq ⟨some 48, some (45, false), (.ofA (.mv (.tmp 7)))⟩
 (.seq ⟨some 49, some (45, false), (.ofA (.len (.tmp 48)))⟩
 (.seq ⟨some 50, some (45, false), (.ofA (.bin .eql (.tmp 47) (.tmp 49)))⟩
 (.seq ⟨some 51, some (45, false), (.ofA (.mv (.tmp 50)))⟩
 (.seq ⟨some 52, some (51, true), (.ofA (.mv (.tmp 9)))⟩
 (.seq ⟨some 53, some (51, true), (.ofA (.mv (.tmp 7)))⟩
 (.seq ⟨some 54, some (51, true), (.call (.cst (.fn 65 [])) [(.tmp 52), (.tmp 53)])⟩
 (.seq ⟨some 55, some (45, false), (.ofA (.pick (.tmp 51) (.tmp 54) (.cst (.v (.bool false)))))⟩
 (.seq ⟨some 56, some (39, true), (.ofA (.pick (.tmp 45) (.cst (.v (.bool true))) (.tmp 55)))⟩
 (.seq ⟨some 57, some (35, false), (.ofA (.pick (.tmp 39) (.tmp 56) (.cst (.v (.bool false)))))⟩
 (.seq ⟨some 58, none, (.ofA (.pick (.tmp 35) (.cst (.v (.bool true))) (.tmp 57)))⟩
 .done))))))))))))))))))))))))))))
 (.cond (.tmp 58)
 (.tree (.seq ⟨some 59, none, (.ofA (.mv (.tmp 9)))⟩
 (.seq ⟨some 7, none, (.ofA (.mv (.tmp 59)))⟩
 .done)))
 .skip)))))
 (.tree (.seq ⟨some 60, none, (.ofA (.bin .add (.tmp 20) (.cst (.v (.int .i64 1)))))⟩
 (.seq ⟨some 20, none, (.ofA (.mv (.tmp 60)))⟩
 .done)))))))))
 (.seq (.tree (.seq ⟨some 61, none, (.ofA (.mv (.tmp 7)))⟩
 (.seq ⟨some 6, none, (.ofA (.mv (.tmp 61)))⟩
 .done)))
 .ret)))))
def r33 : List XR := [.tmp 6]
theorem fn33 : FnX Try.prog 33 [82, 68, 97, 118, 64] 62 x33 r33 := ⟨_, Try.func33, by kernel_rfl, by kernel_rfl, by kernel_rfl, by kernel_rfl⟩
def aheadF : List Int → List Int → Bool
  | x :: a, y :: b => if x = y then aheadF a b else decide (x < y)
  | _, _ => false
theorem ahead_skip : ∀ {a b : List Int} {i : Nat}, a.take i = b.take i → i ≤ a.length → i ≤ b.length → aheadF a b = aheadF (a.drop i) (b.drop i)
  | a, b, 0, _, _, _ => rfl
  | [], b, i + 1, _, h, _ => by simp at h
  | x :: a, [], i + 1, _, _, h => by simp at h
  | x :: a, y :: b, i + 1, h, h1, h2 => by
    rw [List.take_succ_cons, List.take_succ_cons] at h
    injection h with h3 h4
    subst h3
    rw [aheadF, if_pos rfl, List.drop_succ_cons, List.drop_succ_cons]
    exact ahead_skip h4 (by simpa using h1) (by simpa using h2)
def c65 [Inp] : Trans := fun args m k => ∃ (s1 s2 : SV) (a b : List Int), args = [s1, s2] ∧ rdI m s1 = some a ∧ rdI m s2 = some b ∧ a.length ≤ 1000 ∧ a.length ≤ b.length ∧ k (.v (.bool (aheadF a b))) m
theorem c65_ok [I : Inp] : Contract Try.prog 65 true c65 := by
  refine .read fn65 (G := fun J => []) (fun J => @g0 J _) _ fun args m k h => ?_
  obtain ⟨s1, s2, a, b, rfl, ha, hb, hmax, hab, hk⟩ := h
  refine ⟨by simp, fun J hJ us hus => ?_⟩
  obtain ⟨u, t1, rfl, hu1, u2, t2, rfl, hu2, rfl⟩ := hus
  obtain ⟨p, cc, rfl, hin⟩ := rdI_knows ha hu1
  obtain ⟨q, cq, rfl, hiq⟩ := rdI_knows hb hu2
  rw [List.map_cons, List.map_cons, List.map_nil, of_sl, of_sl]
  simp (maxSteps := 2000000) -implicitDefEqProofs only [↓x65, ↓r65, s_alt, s_alt20, s_alt2t, s_alt2f, ↓s_loopi, ↓v_pq, ↓PRE, POST, CORE, Nat.reduceDiv, Nat.reduceMod, Int.reduceLT, Int.reduceLE, Int.reduceToNat, Int.reduceAdd, ↓reduceIte, Nat.reduceEqDiff, Nat.reduceAdd, Nat.reduceMul, Nat.reduceSub, Nat.reduceLeDiff, Nat.reduceLT, reduceCtorEq, if_true, eq_self, forall_const, implies_true]
  refine TXi_of (TX_count (@g0 J _) a.length (fun x => [(0, .v (.slice p a.length cc)), (1, .v (.slice q b.length cq)), (7, .v (.int .i64 (a.length : Int))), (8, .v (.int .i64 (x : Int)))]) (fun x => []) (fun x => a.take x = b.take x) rfl ?_ ?_ ?_)
  · exact (by refine ⟨[], by simp [NdL, NdA, oO_cells, oO_own, iL_nil], ?_, ?_, keep0 hJ⟩ <;> simp only [FitM, FitE, ObLe, LeL, Le, List.cons_append, List.nil_append] <;> (try (simp (maxSteps := 2000000) -implicitDefEqProofs only [s_alt, s_alt20, s_alt2t, s_alt2f, ↓s_loopi, ↓v_pq, ↓PRE, POST, CORE, Nat.reduceDiv, Nat.reduceMod, Int.reduceLT, Int.reduceLE, Int.reduceToNat, Int.reduceAdd, ↓reduceIte, Nat.reduceEqDiff, Nat.reduceAdd, Nat.reduceMul, Nat.reduceSub, Nat.reduceLeDiff, Nat.reduceLT, reduceCtorEq, if_true, eq_self, forall_const, implies_true])) <;> (try simp only [Sz.Le, Sz.LeL, List.getElem?_cons_zero, List.getElem?_cons_succ]) <;> (try simp))
  · intro x hx hI
    obtain ⟨u, hu⟩ : ∃ u, a[x]? = some u := ⟨_, List.getElem?_eq_getElem hx⟩
    obtain ⟨v, hv⟩ : ∃ v, b[x]? = some v := ⟨_, List.getElem?_eq_getElem (by omega)⟩
    have hp : p.isSome = true := inpL_isSome hin (by omega)
    have hq : q.isSome = true := inpL_isSome hiq (by omega)
    have f1 : inpL (plusA p x) 1 = some [.int .i64 u] := inpI_at' hin hu
    have f2 : inpL (plusA q x) 1 = some [.int .i64 v] := inpI_at' hiq hv
    have i0 : (0 : Int) ≤ (x : Int) := by omega
    have i1 : (x : Int) < (a.length : Int) := by omega
    have i2 : (x : Int) < (b.length : Int) := by omega
    have w1 : IntKind.i64.wrap ((x : Int) + 1) = (x : Int) + 1 := Sz.w_64 (by omega) (by omega)
    by_cases huv : u = v
    · subst huv
      simp (maxSteps := 2000000) -implicitDefEqProofs only [i0, i1, i2, hp, hq, f1, f2, w1, bne_self_eq_false, s_alt, s_alt20, s_alt2t, s_alt2f, ↓s_loopi, ↓v_pq, ↓PRE, POST, CORE, Nat.reduceDiv, Nat.reduceMod, Int.reduceLT, Int.reduceLE, Int.reduceToNat, Int.reduceAdd, ↓reduceIte, Nat.reduceEqDiff, Nat.reduceAdd, Nat.reduceMul, Nat.reduceSub, Nat.reduceLeDiff, Nat.reduceLT, reduceCtorEq, if_true, eq_self, forall_const, implies_true]
      exact ⟨by rw [take_snoc hu, take_snoc hv, hI], (by refine ⟨[], by simp [NdL, NdA, oO_cells, oO_own, iL_nil], ?_, ?_, keep0 hJ⟩ <;> simp only [FitM, FitE, ObLe, LeL, Le, List.cons_append, List.nil_append] <;> (try (simp (maxSteps := 2000000) -implicitDefEqProofs only [s_alt, s_alt20, s_alt2t, s_alt2f, ↓s_loopi, ↓v_pq, ↓PRE, POST, CORE, Nat.reduceDiv, Nat.reduceMod, Int.reduceLT, Int.reduceLE, Int.reduceToNat, Int.reduceAdd, ↓reduceIte, Nat.reduceEqDiff, Nat.reduceAdd, Nat.reduceMul, Nat.reduceSub, Nat.reduceLeDiff, Nat.reduceLT, reduceCtorEq, if_true, eq_self, forall_const, implies_true])) <;> (try simp only [Sz.Le, Sz.LeL, List.getElem?_cons_zero, List.getElem?_cons_succ]) <;> (try simp))⟩
    · have hne : (u != v) = true := by simpa using huv
      have e : aheadF a b = decide (u < v) := by
        rw [ahead_skip hI (by omega) (by omega), List.drop_eq_getElem_cons hx, List.drop_eq_getElem_cons (show x < b.length by omega), aheadF]
        rw [List.getElem?_eq_getElem hx] at hu
        rw [List.getElem?_eq_getElem (show x < b.length by omega)] at hv
        injection hu with hu; injection hv with hv
        rw [hu, hv, if_neg huv]
      rw [e] at hk
      simp (maxSteps := 2000000) -implicitDefEqProofs only [i0, i1, i2, hp, hq, f1, f2, hne, s_alt, s_alt20, s_alt2t, s_alt2f, ↓s_loopi, ↓v_pq, ↓PRE, POST, CORE, Nat.reduceDiv, Nat.reduceMod, Int.reduceLT, Int.reduceLE, Int.reduceToNat, Int.reduceAdd, ↓reduceIte, Nat.reduceEqDiff, Nat.reduceAdd, Nat.reduceMul, Nat.reduceSub, Nat.reduceLeDiff, Nat.reduceLT, reduceCtorEq, if_true, eq_self, forall_const, implies_true]
      exact hk
  · intro hI
    have j0 : ¬ (a.length : Int) < (a.length : Int) := by omega
    have e : aheadF a b = false := by
      rw [ahead_skip hI (Nat.le_refl _) hab, List.drop_length]
      rfl
    rw [e] at hk
    simp (maxSteps := 2000000) -implicitDefEqProofs only [j0, s_alt, s_alt20, s_alt2t, s_alt2f, ↓s_loopi, ↓v_pq, ↓PRE, POST, CORE, Nat.reduceDiv, Nat.reduceMod, Int.reduceLT, Int.reduceLE, Int.reduceToNat, Int.reduceAdd, ↓reduceIte, Nat.reduceEqDiff, Nat.reduceAdd, Nat.reduceMul, Nat.reduceSub, Nat.reduceLeDiff, Nat.reduceLT, reduceCtorEq, if_true, eq_self, forall_const, implies_true]
    exact hk
def c31 [Inp] : Trans := fun args m k => ∃ (s1 s2 : SV) (a b : List Int), args = [s1, s2] ∧ rdI m s1 = some a ∧ rdI m s2 = some b ∧ a.length ≤ 1000 ∧ a = b ∧ k (.v (.bool true)) m
theorem c31_ok [I : Inp] : Contract Try.prog 31 true c31 := by
  refine .read fn31 (G := fun J => []) (fun J => @g0 J _) _ fun args m k h => ?_
  obtain ⟨s1, s2, a, b, rfl, ha, hb, hmax, rfl, hk⟩ := h
  refine ⟨by simp, fun J hJ us hus => ?_⟩
  obtain ⟨u, t1, rfl, hu1, u2, t2, rfl, hu2, rfl⟩ := hus
  obtain ⟨p, cc, rfl, hin⟩ := rdI_knows ha hu1
  obtain ⟨q, cq, rfl, hiq⟩ := rdI_knows hb hu2
  rw [List.map_cons, List.map_cons, List.map_nil, of_sl, of_sl]
  simp (maxSteps := 2000000) -implicitDefEqProofs only [↓x31, ↓r31, bne_self_eq_false, s_alt, s_alt20, s_alt2t, s_alt2f, ↓s_loopi, ↓v_pq, ↓PRE, POST, CORE, Nat.reduceDiv, Nat.reduceMod, Int.reduceLT, Int.reduceLE, Int.reduceToNat, Int.reduceAdd, ↓reduceIte, Nat.reduceEqDiff, Nat.reduceAdd, Nat.reduceMul, Nat.reduceSub, Nat.reduceLeDiff, Nat.reduceLT, reduceCtorEq, if_true, eq_self, forall_const, implies_true]
  refine TXi_of (TX_count (@g0 J _) a.length (fun x => [(0, .v (.slice p a.length cc)), (1, .v (.slice q a.length cq)), (12, .v (.int .i64 (a.length : Int))), (13, .v (.int .i64 (x : Int)))]) (fun x => []) (fun x => True) trivial ?_ ?_ ?_)
  · exact (by refine ⟨[], by simp [NdL, NdA, oO_cells, oO_own, iL_nil], ?_, ?_, keep0 hJ⟩ <;> simp only [FitM, FitE, ObLe, LeL, Le, List.cons_append, List.nil_append] <;> (try (simp (maxSteps := 2000000) -implicitDefEqProofs only [s_alt, s_alt20, s_alt2t, s_alt2f, ↓s_loopi, ↓v_pq, ↓PRE, POST, CORE, Nat.reduceDiv, Nat.reduceMod, Int.reduceLT, Int.reduceLE, Int.reduceToNat, Int.reduceAdd, ↓reduceIte, Nat.reduceEqDiff, Nat.reduceAdd, Nat.reduceMul, Nat.reduceSub, Nat.reduceLeDiff, Nat.reduceLT, reduceCtorEq, if_true, eq_self, forall_const, implies_true])) <;> (try simp only [Sz.Le, Sz.LeL, List.getElem?_cons_zero, List.getElem?_cons_succ]) <;> (try simp))
  · intro x hx _
    obtain ⟨u, hu⟩ : ∃ u, a[x]? = some u := ⟨_, List.getElem?_eq_getElem hx⟩
    have hp : p.isSome = true := inpL_isSome hin (by omega)
    have hq : q.isSome = true := inpL_isSome hiq (by omega)
    have f1 : inpL (plusA p x) 1 = some [.int .i64 u] := inpI_at' hin hu
    have f2 : inpL (plusA q x) 1 = some [.int .i64 u] := inpI_at' hiq hu
    have i0 : (0 : Int) ≤ (x : Int) := by omega
    have i1 : (x : Int) < (a.length : Int) := by omega
    have w1 : IntKind.i64.wrap ((x : Int) + 1) = (x : Int) + 1 := Sz.w_64 (by omega) (by omega)
    simp (maxSteps := 2000000) -implicitDefEqProofs only [i0, i1, hp, hq, f1, f2, w1, bne_self_eq_false, s_alt, s_alt20, s_alt2t, s_alt2f, ↓s_loopi, ↓v_pq, ↓PRE, POST, CORE, Nat.reduceDiv, Nat.reduceMod, Int.reduceLT, Int.reduceLE, Int.reduceToNat, Int.reduceAdd, ↓reduceIte, Nat.reduceEqDiff, Nat.reduceAdd, Nat.reduceMul, Nat.reduceSub, Nat.reduceLeDiff, Nat.reduceLT, reduceCtorEq, if_true, eq_self, forall_const, implies_true]
    exact (by refine ⟨[], by simp [NdL, NdA, oO_cells, oO_own, iL_nil], ?_, ?_, keep0 hJ⟩ <;> simp only [FitM, FitE, ObLe, LeL, Le, List.cons_append, List.nil_append] <;> (try (simp (maxSteps := 2000000) -implicitDefEqProofs only [s_alt, s_alt20, s_alt2t, s_alt2f, ↓s_loopi, ↓v_pq, ↓PRE, POST, CORE, Nat.reduceDiv, Nat.reduceMod, Int.reduceLT, Int.reduceLE, Int.reduceToNat, Int.reduceAdd, ↓reduceIte, Nat.reduceEqDiff, Nat.reduceAdd, Nat.reduceMul, Nat.reduceSub, Nat.reduceLeDiff, Nat.reduceLT, reduceCtorEq, if_true, eq_self, forall_const, implies_true])) <;> (try simp only [Sz.Le, Sz.LeL, List.getElem?_cons_zero, List.getElem?_cons_succ]) <;> (try simp))
  · intro _
    have j0 : ¬ (a.length : Int) < (a.length : Int) := by omega
    simp (maxSteps := 2000000) -implicitDefEqProofs only [j0, s_alt, s_alt20, s_alt2t, s_alt2f, ↓s_loopi, ↓v_pq, ↓PRE, POST, CORE, Nat.reduceDiv, Nat.reduceMod, Int.reduceLT, Int.reduceLE, Int.reduceToNat, Int.reduceAdd, ↓reduceIte, Nat.reduceEqDiff, Nat.reduceAdd, Nat.reduceMul, Nat.reduceSub, Nat.reduceLeDiff, Nat.reduceLT, reduceCtorEq, if_true, eq_self, forall_const, implies_true]
    exact hk
def betL (l : List Ra.Rg) (n : Int) (x y : List Int) : Bool := decide (sumC l n y < sumC l n x) || (sumC l n x == sumC l n y && (decide (x.length < y.length) || (x.length == y.length && aheadF x y)))
def refS (l : List Ra.Rg) (n : Int) (best x : List Int) : List Int := if betL l n x best = true then x else best
def refF (l : List Ra.Rg) (b n : Int) : List Int := if 12 < l.length then [] else (allF l n (room b) l.length).foldl (refS l n) []
def SvOk [Inp] (m : Mem) (s : SV) (x : List Int) : Prop := rdI m s = some x ∧ (∀ K : SV → Prop, lenK s K = K (.v (.int .i64 (x.length : Int)))) ∧ ((x = [] ∧ s = .v (.slice none 0 0)) ∨ ∃ k, x ≠ [] ∧ s = .row k 0 x.length 1 ∧ m[k]? = some ⟨true, iL x⟩)
theorem svOk_nil [Inp] {m : Mem} : SvOk m (.v (.slice none 0 0)) [] := ⟨@rdI_v _ m none 0 0 [] rfl, fun K => rfl, .inl ⟨rfl, rfl⟩⟩
theorem svOk_row [Inp] {m : Mem} {k : Nat} {x : List Int} (h0 : x ≠ []) (h : m[k]? = some ⟨true, iL x⟩) : SvOk m (.row k 0 x.length 1) x := ⟨rdI_r h, fun K => rfl, .inr ⟨k, h0, rfl, h⟩⟩
theorem rowsAt_sv [Inp] {m : Mem} {j c : Nat} {cs : List SV} {X : List (List Int)} {x : List Int} (h : RowsAt m j cs X) (hx : X[c]? = some x) : ∃ s, cs[c]? = some s ∧ SvOk m s x := by
  rcases h.2 c x hx with ⟨rfl, h2⟩ | ⟨k, _, h0, h3, h4⟩
  · exact ⟨_, h2, svOk_nil⟩
  · exact ⟨_, h3, svOk_row h0 h4⟩
theorem a65 [Inp] {s1 s2 : SV} {a b : List Int} {m : Mem} {k : SV → Mem → Prop} (h1 : rdI m s1 = some a) (h2 : rdI m s2 = some b) (hl : a.length ≤ 1000) (hab : a.length ≤ b.length) : c65 [s1, s2] m k = k (.v (.bool (aheadF a b))) m := by
  unfold c65
  refine propext ⟨?_, fun hk => ⟨s1, s2, a, b, rfl, h1, h2, hl, hab, hk⟩⟩
  rintro ⟨s1', s2', a', b', e, h1', h2', _, _, hk⟩
  injection e with e1 e2
  injection e2 with e2 _
  subst e1; subst e2
  rw [h1] at h1'; injection h1' with h1'; subst h1'
  rw [h2] at h2'; injection h2' with h2'; subst h2'
  exact hk
def c33 [Inp] : Trans := fun args m k => ∃ (s : SV) (l : List Ra.Rg) (b n : Int), args = [s, .v (.int .i64 b), .v (.int .i64 n)] ∧ rdG m s = some l ∧ l.length ≤ 1000 ∧ k (rS m.length 1 (refF l b n).length) (m ++ rM (iL (refF l b n)))
def G33 [Inp] : List CEntry := [⟨64, false, c64⟩, ⟨37, true, c37⟩, ⟨65, true, c65⟩]
theorem s33 [Inp] : GOk Try.prog G33 := GOk.cons c64_ok (GOk.cons c37_ok (GOk.cons c65_ok (g0 _)))
theorem i64 [Inp] {l : List SV} {m : Mem} {K : SV → Mem → Prop} : c64 l m K = @useI c64 l m ⟨K⟩ := Eq.trans rfl rfl
theorem k37 [J : Inp] {l : List SV} {m : Mem} {K : SV → Mem → Prop} : entK (Sz.look 37 (@G33 J)) l m K = @useI (@c37 J) l m ⟨K⟩ := Eq.trans rfl rfl
theorem k65 [J : Inp] {l : List SV} {m : Mem} {K : SV → Mem → Prop} : entK (Sz.look 65 (@G33 J)) l m K = @useI (@c65 J) l m ⟨K⟩ := Eq.trans rfl rfl
theorem c33_ok [I : Inp] : Contract Try.prog 33 true c33 := by
  refine .readF3 fn33 (G := fun J => @G33 J) (fun J => @s33 J) _ fun args m0 k h => ?_
  obtain ⟨s, l, b, n, rfl, hl, hmax, hk⟩ := h
  refine ⟨by simp, fun J hJ us hus => ?_⟩
  obtain ⟨u, t1, rfl, hu1, u2, t2, rfl, hu2, u3, t3, rfl, hu3, rfl⟩ := hus
  obtain rfl := hu2.1 _ rfl
  obtain rfl := hu3.1 _ rfl
  obtain ⟨p, c, rfl, hin⟩ := rdG_knows hl hu1
  rw [List.map_cons, List.map_cons, List.map_cons, List.map_nil, of_sl, of_int, of_int]
  unfold refF at hk
  by_cases h12 : (12 : Int) < (l.length : Int)
  · rw [if_pos (by omega)] at hk
    simp (maxSteps := 2000000) -implicitDefEqProofs only [↓x33, ↓r33, gt_iff_lt, h12, s_alt, s_alt20, s_alt2t, s_alt2f, ↓s_loopi, ↓v_pq, ↓PRE, POST, CORE, Nat.reduceDiv, Nat.reduceMod, Int.reduceLT, Int.reduceLE, Int.reduceToNat, Int.reduceAdd, ↓reduceIte, Nat.reduceEqDiff, Nat.reduceAdd, Nat.reduceMul, Nat.reduceSub, Nat.reduceLeDiff, Nat.reduceLT, reduceCtorEq, if_true, eq_self, forall_const, implies_true]
    refine ⟨[], .v (.slice none 0 0), [], by simp [NdL], trivial, by simp, by simp only [Le], ?_⟩
    rw [List.length_nil, rS_0, iL_nil, rM_0, List.append_nil] at hk
    simpa [SV.up] using hk
  rw [if_neg (by omega)] at hk
  simp (maxSteps := 2000000) -implicitDefEqProofs only [↓x33, ↓r33, ↓G33, gt_iff_lt, h12, ↓i64, s_alt, s_alt20, s_alt2t, s_alt2f, ↓s_loopi, ↓v_pq, ↓PRE, POST, CORE, Nat.reduceDiv, Nat.reduceMod, Int.reduceLT, Int.reduceLE, Int.reduceToNat, Int.reduceAdd, ↓reduceIte, Nat.reduceEqDiff, Nat.reduceAdd, Nat.reduceMul, Nat.reduceSub, Nat.reduceLeDiff, Nat.reduceLT, reduceCtorEq, if_true, eq_self, forall_const, implies_true]
  refine useI_of ⟨p, c, l, b, n, rfl, hin, by omega, fun m j cs hm hR _ => ?_⟩
  simp (maxSteps := 2000000) -implicitDefEqProofs only [↓v_kq, s_alt, s_alt20, s_alt2t, s_alt2f, ↓s_loopi, ↓v_pq, ↓PRE, POST, CORE, Nat.reduceDiv, Nat.reduceMod, Int.reduceLT, Int.reduceLE, Int.reduceToNat, Int.reduceAdd, ↓reduceIte, Nat.reduceEqDiff, Nat.reduceAdd, Nat.reduceMul, Nat.reduceSub, Nat.reduceLeDiff, Nat.reduceLT, reduceCtorEq, if_true, eq_self, forall_const, implies_true]
  have hlen := allF_len l n (room b) l.length
  have hpow : 2 ^ l.length ≤ 4096 := Nat.le_trans (Nat.pow_le_pow_right (by omega) (show l.length ≤ 12 by omega)) (by decide)
  have hin2 := allF_in l n (room b) l.length (Nat.le_refl _)
  generalize allF l n (room b) l.length = X at hk hR hlen hin2 ⊢
  refine TXi_of (TX_countM (@s33 J) X.length (fun c' (s : SV × List Int) => [(0, .v (.slice p l.length c)), (2, .v (.int .i64 n)), (7, s.1), (18, .row j 0 X.length 1), (19, .v (.int .i64 (X.length : Int))), (20, .v (.int .i64 (c' : Int)))]) (fun s => m) (fun c' s => SvOk m s.1 s.2 ∧ s.2 = (X.take c').foldl (refS l n) [] ∧ s.2.length ≤ 12 ∧ ∀ j ∈ s.2, 0 ≤ j ∧ j < l.length) (.v (.slice none 0 0), []) ?_ ?_ ?_ ?_)
  · exact ⟨svOk_nil, rfl, by simp, fun j hj => by cases hj⟩
  · exact ⟨rfl, by simp only [FitS]; simp (maxSteps := 2000000) -implicitDefEqProofs only [s_alt, s_alt20, s_alt2t, s_alt2f, ↓s_loopi, ↓v_pq, ↓PRE, POST, CORE, Nat.reduceDiv, Nat.reduceMod, Int.reduceLT, Int.reduceLE, Int.reduceToNat, Int.reduceAdd, ↓reduceIte, Nat.reduceEqDiff, Nat.reduceAdd, Nat.reduceMul, Nat.reduceSub, Nat.reduceLeDiff, Nat.reduceLT, reduceCtorEq, if_true, eq_self, forall_const, implies_true]⟩
  · rintro c' ⟨sB, best⟩ hc' ⟨⟨hB1, hB2, hB3⟩, hbest, hbl, hbi⟩
    simp only at hB1 hB2 hB3 hbest hbl hbi ⊢
    obtain ⟨x, hx⟩ : ∃ x, X[c']? = some x := ⟨_, List.getElem?_eq_getElem hc'⟩
    obtain ⟨sx, hcell, hX1, hX2, hX3⟩ := rowsAt_sv hR hx
    have hxin := hin2 x (List.mem_of_getElem? hx)
    have hstep : (X.take (c' + 1)).foldl (refS l n) [] = refS l n best x := by rw [take_snoc hx, List.foldl_append, ← hbest]; rfl
    have c0 : (0 : Int) ≤ (c' : Int) := by omega
    have c1 : (c' : Int) < (X.length : Int) := by omega
    have w2 : IntKind.i64.wrap ((c' : Int) + 1) = (c' : Int) + 1 := Sz.w_64 (by omega) (by omega)
    have hcast2 : ((c' + 1 : Nat) : Int) = (c' : Int) + 1 := rfl
    have Ax : ∀ (K : KBox), @useI c37 [.v (.slice p l.length c), sx, .v (.int .i64 n)] m K = K.q (.v (.int .i64 (sumC l n x))) m := fun K => a37 (rdG_v hin) hX1 (by omega) (by omega) hxin.2
    have Ab : ∀ (K : KBox), @useI c37 [.v (.slice p l.length c), sB, .v (.int .i64 n)] m K = K.q (.v (.int .i64 (sumC l n best))) m := fun K => a37 (rdG_v hin) hB1 (by omega) (by omega) hbi
    have old : betL l n x best = false → SvOk m sB best ∧ best = (X.take (c' + 1)).foldl (refS l n) [] ∧ best.length ≤ 12 ∧ ∀ j ∈ best, 0 ≤ j ∧ j < l.length := fun h => ⟨⟨hB1, hB2, hB3⟩, by rw [hstep, refS, if_neg (by rw [h]; simp)], hbl, hbi⟩
    have new : betL l n x best = true → SvOk m sx x ∧ x = (X.take (c' + 1)).foldl (refS l n) [] ∧ x.length ≤ 12 ∧ ∀ j ∈ x, 0 ≤ j ∧ j < l.length := fun h => ⟨⟨hX1, hX2, hX3⟩, by rw [hstep, refS, if_pos h], by omega, hxin.2⟩
    have hbl0 : betL l n x best = (decide (sumC l n best < sumC l n x) || (sumC l n x == sumC l n best && (decide (x.length < best.length) || (x.length == best.length && aheadF x best)))) := rfl
    have hxl0 : x = [] → x.length = 0 := fun h => by rw [h]; rfl
    have hbl1 : best = [] → best.length = 0 := fun h => by rw [h]; rfl
    rcases hX3 with ⟨hx0, rfl⟩ | ⟨kx, _, rfl, hkx⟩
    · have hxe := hx0
      replace hx0 := hxl0 hx0
      rcases hB3 with ⟨hbe, rfl⟩ | ⟨kB, _, rfl, hkB⟩
      · have hah : aheadF x best = false := by rw [hxe]; rfl
        have hf : betL l n x best = false := by
          rw [hbl0, hah, hxe, hbe]
          simp
        have Aa : ∀ (K : KBox), @useI c65 [.v (.slice none 0 0), .v (.slice none 0 0)] m K = K.q (.v (.bool (aheadF x best))) m := fun K => a65 hX1 hB1 (by omega) (by rw [hxe]; exact Nat.zero_le _)
        simp (maxSteps := 2000000) -implicitDefEqProofs only [↓k37, ↓k65, ↓v_kq, Ab, Aa, List.append_nil, c0, c1, hm, hcell, w2, gt_iff_lt, Int.lt_irrefl, beq_self_eq_true, hah, s_alt, s_alt20, s_alt2t, s_alt2f, ↓s_loopi, ↓v_pq, ↓PRE, POST, CORE, Nat.reduceDiv, Nat.reduceMod, Int.reduceLT, Int.reduceLE, Int.reduceToNat, Int.reduceAdd, ↓reduceIte, Nat.reduceEqDiff, Nat.reduceAdd, Nat.reduceMul, Nat.reduceSub, Nat.reduceLeDiff, Nat.reduceLT, reduceCtorEq, if_true, eq_self, forall_const, implies_true]
        exact ⟨(.v (.slice none 0 0), best), old hf, by simp only [FitS]; simp (maxSteps := 2000000) -implicitDefEqProofs only [hcast2, s_alt, s_alt20, s_alt2t, s_alt2f, ↓s_loopi, ↓v_pq, ↓PRE, POST, CORE, Nat.reduceDiv, Nat.reduceMod, Int.reduceLT, Int.reduceLE, Int.reduceToNat, Int.reduceAdd, ↓reduceIte, Nat.reduceEqDiff, Nat.reduceAdd, Nat.reduceMul, Nat.reduceSub, Nat.reduceLeDiff, Nat.reduceLT, reduceCtorEq, if_true, eq_self, forall_const, implies_true]⟩
      ·
        by_cases h1 : sumC l n best < sumC l n x
        · simp (maxSteps := 2000000) -implicitDefEqProofs only [↓k37, ↓k65, ↓v_kq, Ax, Ab, List.append_nil, c0, c1, hm, hcell, w2, gt_iff_lt, h1, s_alt, s_alt20, s_alt2t, s_alt2f, ↓s_loopi, ↓v_pq, ↓PRE, POST, CORE, Nat.reduceDiv, Nat.reduceMod, Int.reduceLT, Int.reduceLE, Int.reduceToNat, Int.reduceAdd, ↓reduceIte, Nat.reduceEqDiff, Nat.reduceAdd, Nat.reduceMul, Nat.reduceSub, Nat.reduceLeDiff, Nat.reduceLT, reduceCtorEq, if_true, eq_self, forall_const, implies_true]
          exact ⟨(.v (.slice none 0 0), x), new (by rw [hbl0, decide_eq_true h1]; rfl), by simp only [FitS]; simp (maxSteps := 2000000) -implicitDefEqProofs only [hcast2, s_alt, s_alt20, s_alt2t, s_alt2f, ↓s_loopi, ↓v_pq, ↓PRE, POST, CORE, Nat.reduceDiv, Nat.reduceMod, Int.reduceLT, Int.reduceLE, Int.reduceToNat, Int.reduceAdd, ↓reduceIte, Nat.reduceEqDiff, Nat.reduceAdd, Nat.reduceMul, Nat.reduceSub, Nat.reduceLeDiff, Nat.reduceLT, reduceCtorEq, if_true, eq_self, forall_const, implies_true]⟩
        · rw [decide_eq_false h1, Bool.false_or] at hbl0
          by_cases h2 : sumC l n x = sumC l n best
          · have h2b : (sumC l n x == sumC l n best) = true := by simpa using h2
            rw [h2b, Bool.true_and] at hbl0
            by_cases h3 : x.length < best.length
            · have h3i : (0 : Int) < (best.length : Int) := by omega
              simp (maxSteps := 2000000) -implicitDefEqProofs only [↓k37, ↓k65, ↓v_kq, Ax, Ab, List.append_nil, c0, c1, hm, hcell, w2, gt_iff_lt, h2, Int.lt_irrefl, beq_self_eq_true, h3i, s_alt, s_alt20, s_alt2t, s_alt2f, ↓s_loopi, ↓v_pq, ↓PRE, POST, CORE, Nat.reduceDiv, Nat.reduceMod, Int.reduceLT, Int.reduceLE, Int.reduceToNat, Int.reduceAdd, ↓reduceIte, Nat.reduceEqDiff, Nat.reduceAdd, Nat.reduceMul, Nat.reduceSub, Nat.reduceLeDiff, Nat.reduceLT, reduceCtorEq, if_true, eq_self, forall_const, implies_true]
              exact ⟨(.v (.slice none 0 0), x), new (by rw [hbl0, decide_eq_true h3]; rfl), by simp only [FitS]; simp (maxSteps := 2000000) -implicitDefEqProofs only [hcast2, s_alt, s_alt20, s_alt2t, s_alt2f, ↓s_loopi, ↓v_pq, ↓PRE, POST, CORE, Nat.reduceDiv, Nat.reduceMod, Int.reduceLT, Int.reduceLE, Int.reduceToNat, Int.reduceAdd, ↓reduceIte, Nat.reduceEqDiff, Nat.reduceAdd, Nat.reduceMul, Nat.reduceSub, Nat.reduceLeDiff, Nat.reduceLT, reduceCtorEq, if_true, eq_self, forall_const, implies_true]⟩
            · have h3i : ¬ (0 : Int) < (best.length : Int) := by omega
              rw [decide_eq_false h3, Bool.false_or] at hbl0
              by_cases h4 : x.length = best.length
              · have h4b : (x.length == best.length) = true := by simpa using h4
                have h4i : ((0 : Int) == (best.length : Int)) = true := by rw [beq_iff_eq]; omega
                have Aa : ∀ (K : KBox), @useI c65 [.v (.slice none 0 0), .row kB 0 best.length 1] m K = K.q (.v (.bool (aheadF x best))) m := fun K => a65 hX1 hB1 (by omega) (by omega)
                rw [h4b, Bool.true_and] at hbl0
                cases h5 : aheadF x best with
                | true =>
                  rw [h5] at hbl0
                  simp (maxSteps := 2000000) -implicitDefEqProofs only [↓k37, ↓k65, ↓v_kq, Ax, Ab, Aa, List.append_nil, c0, c1, hm, hcell, w2, gt_iff_lt, h2, Int.lt_irrefl, beq_self_eq_true, h3i, h4i, h5, s_alt, s_alt20, s_alt2t, s_alt2f, ↓s_loopi, ↓v_pq, ↓PRE, POST, CORE, Nat.reduceDiv, Nat.reduceMod, Int.reduceLT, Int.reduceLE, Int.reduceToNat, Int.reduceAdd, ↓reduceIte, Nat.reduceEqDiff, Nat.reduceAdd, Nat.reduceMul, Nat.reduceSub, Nat.reduceLeDiff, Nat.reduceLT, reduceCtorEq, if_true, eq_self, forall_const, implies_true]
                  exact ⟨(.v (.slice none 0 0), x), new hbl0, by simp only [FitS]; simp (maxSteps := 2000000) -implicitDefEqProofs only [hcast2, s_alt, s_alt20, s_alt2t, s_alt2f, ↓s_loopi, ↓v_pq, ↓PRE, POST, CORE, Nat.reduceDiv, Nat.reduceMod, Int.reduceLT, Int.reduceLE, Int.reduceToNat, Int.reduceAdd, ↓reduceIte, Nat.reduceEqDiff, Nat.reduceAdd, Nat.reduceMul, Nat.reduceSub, Nat.reduceLeDiff, Nat.reduceLT, reduceCtorEq, if_true, eq_self, forall_const, implies_true]⟩
                | false =>
                  rw [h5] at hbl0
                  simp (maxSteps := 2000000) -implicitDefEqProofs only [↓k37, ↓k65, ↓v_kq, Ax, Ab, Aa, List.append_nil, c0, c1, hm, hcell, w2, gt_iff_lt, h2, Int.lt_irrefl, beq_self_eq_true, h3i, h4i, h5, s_alt, s_alt20, s_alt2t, s_alt2f, ↓s_loopi, ↓v_pq, ↓PRE, POST, CORE, Nat.reduceDiv, Nat.reduceMod, Int.reduceLT, Int.reduceLE, Int.reduceToNat, Int.reduceAdd, ↓reduceIte, Nat.reduceEqDiff, Nat.reduceAdd, Nat.reduceMul, Nat.reduceSub, Nat.reduceLeDiff, Nat.reduceLT, reduceCtorEq, if_true, eq_self, forall_const, implies_true]
                  exact ⟨(.row kB 0 best.length 1, best), old hbl0, by simp only [FitS]; simp (maxSteps := 2000000) -implicitDefEqProofs only [hcast2, s_alt, s_alt20, s_alt2t, s_alt2f, ↓s_loopi, ↓v_pq, ↓PRE, POST, CORE, Nat.reduceDiv, Nat.reduceMod, Int.reduceLT, Int.reduceLE, Int.reduceToNat, Int.reduceAdd, ↓reduceIte, Nat.reduceEqDiff, Nat.reduceAdd, Nat.reduceMul, Nat.reduceSub, Nat.reduceLeDiff, Nat.reduceLT, reduceCtorEq, if_true, eq_self, forall_const, implies_true]⟩
              · have h4b : (x.length == best.length) = false := by simpa using h4
                have h4i : ((0 : Int) == (best.length : Int)) = false := by rw [beq_eq_false_iff_ne]; omega
                rw [h4b, Bool.false_and] at hbl0
                simp (maxSteps := 2000000) -implicitDefEqProofs only [↓k37, ↓k65, ↓v_kq, Ax, Ab, List.append_nil, c0, c1, hm, hcell, w2, gt_iff_lt, h2, Int.lt_irrefl, beq_self_eq_true, h3i, h4i, s_alt, s_alt20, s_alt2t, s_alt2f, ↓s_loopi, ↓v_pq, ↓PRE, POST, CORE, Nat.reduceDiv, Nat.reduceMod, Int.reduceLT, Int.reduceLE, Int.reduceToNat, Int.reduceAdd, ↓reduceIte, Nat.reduceEqDiff, Nat.reduceAdd, Nat.reduceMul, Nat.reduceSub, Nat.reduceLeDiff, Nat.reduceLT, reduceCtorEq, if_true, eq_self, forall_const, implies_true]
                exact ⟨(.row kB 0 best.length 1, best), old hbl0, by simp only [FitS]; simp (maxSteps := 2000000) -implicitDefEqProofs only [hcast2, s_alt, s_alt20, s_alt2t, s_alt2f, ↓s_loopi, ↓v_pq, ↓PRE, POST, CORE, Nat.reduceDiv, Nat.reduceMod, Int.reduceLT, Int.reduceLE, Int.reduceToNat, Int.reduceAdd, ↓reduceIte, Nat.reduceEqDiff, Nat.reduceAdd, Nat.reduceMul, Nat.reduceSub, Nat.reduceLeDiff, Nat.reduceLT, reduceCtorEq, if_true, eq_self, forall_const, implies_true]⟩
          · have h2b : (sumC l n x == sumC l n best) = false := by simpa using h2
            rw [h2b, Bool.false_and] at hbl0
            simp (maxSteps := 2000000) -implicitDefEqProofs only [↓k37, ↓k65, ↓v_kq, Ax, Ab, List.append_nil, c0, c1, hm, hcell, w2, gt_iff_lt, h1, h2b, s_alt, s_alt20, s_alt2t, s_alt2f, ↓s_loopi, ↓v_pq, ↓PRE, POST, CORE, Nat.reduceDiv, Nat.reduceMod, Int.reduceLT, Int.reduceLE, Int.reduceToNat, Int.reduceAdd, ↓reduceIte, Nat.reduceEqDiff, Nat.reduceAdd, Nat.reduceMul, Nat.reduceSub, Nat.reduceLeDiff, Nat.reduceLT, reduceCtorEq, if_true, eq_self, forall_const, implies_true]
            exact ⟨(.row kB 0 best.length 1, best), old hbl0, by simp only [FitS]; simp (maxSteps := 2000000) -implicitDefEqProofs only [hcast2, s_alt, s_alt20, s_alt2t, s_alt2f, ↓s_loopi, ↓v_pq, ↓PRE, POST, CORE, Nat.reduceDiv, Nat.reduceMod, Int.reduceLT, Int.reduceLE, Int.reduceToNat, Int.reduceAdd, ↓reduceIte, Nat.reduceEqDiff, Nat.reduceAdd, Nat.reduceMul, Nat.reduceSub, Nat.reduceLeDiff, Nat.reduceLT, reduceCtorEq, if_true, eq_self, forall_const, implies_true]⟩
    · rcases hB3 with ⟨hb0, rfl⟩ | ⟨kB, _, rfl, hkB⟩
      · replace hb0 := hbl1 hb0
        by_cases h1 : sumC l n best < sumC l n x
        · simp (maxSteps := 2000000) -implicitDefEqProofs only [↓k37, ↓k65, ↓v_kq, Ax, Ab, List.append_nil, c0, c1, hm, hcell, w2, gt_iff_lt, h1, s_alt, s_alt20, s_alt2t, s_alt2f, ↓s_loopi, ↓v_pq, ↓PRE, POST, CORE, Nat.reduceDiv, Nat.reduceMod, Int.reduceLT, Int.reduceLE, Int.reduceToNat, Int.reduceAdd, ↓reduceIte, Nat.reduceEqDiff, Nat.reduceAdd, Nat.reduceMul, Nat.reduceSub, Nat.reduceLeDiff, Nat.reduceLT, reduceCtorEq, if_true, eq_self, forall_const, implies_true]
          exact ⟨(.row kx 0 x.length 1, x), new (by rw [hbl0, decide_eq_true h1]; rfl), by simp only [FitS]; simp (maxSteps := 2000000) -implicitDefEqProofs only [hcast2, s_alt, s_alt20, s_alt2t, s_alt2f, ↓s_loopi, ↓v_pq, ↓PRE, POST, CORE, Nat.reduceDiv, Nat.reduceMod, Int.reduceLT, Int.reduceLE, Int.reduceToNat, Int.reduceAdd, ↓reduceIte, Nat.reduceEqDiff, Nat.reduceAdd, Nat.reduceMul, Nat.reduceSub, Nat.reduceLeDiff, Nat.reduceLT, reduceCtorEq, if_true, eq_self, forall_const, implies_true]⟩
        · rw [decide_eq_false h1, Bool.false_or] at hbl0
          by_cases h2 : sumC l n x = sumC l n best
          · have h2b : (sumC l n x == sumC l n best) = true := by simpa using h2
            rw [h2b, Bool.true_and] at hbl0
            by_cases h3 : x.length < best.length
            · have h3i : (x.length : Int) < (0 : Int) := by omega
              simp (maxSteps := 2000000) -implicitDefEqProofs only [↓k37, ↓k65, ↓v_kq, Ax, Ab, List.append_nil, c0, c1, hm, hcell, w2, gt_iff_lt, h2, Int.lt_irrefl, beq_self_eq_true, h3i, s_alt, s_alt20, s_alt2t, s_alt2f, ↓s_loopi, ↓v_pq, ↓PRE, POST, CORE, Nat.reduceDiv, Nat.reduceMod, Int.reduceLT, Int.reduceLE, Int.reduceToNat, Int.reduceAdd, ↓reduceIte, Nat.reduceEqDiff, Nat.reduceAdd, Nat.reduceMul, Nat.reduceSub, Nat.reduceLeDiff, Nat.reduceLT, reduceCtorEq, if_true, eq_self, forall_const, implies_true]
              exact ⟨(.row kx 0 x.length 1, x), new (by rw [hbl0, decide_eq_true h3]; rfl), by simp only [FitS]; simp (maxSteps := 2000000) -implicitDefEqProofs only [hcast2, s_alt, s_alt20, s_alt2t, s_alt2f, ↓s_loopi, ↓v_pq, ↓PRE, POST, CORE, Nat.reduceDiv, Nat.reduceMod, Int.reduceLT, Int.reduceLE, Int.reduceToNat, Int.reduceAdd, ↓reduceIte, Nat.reduceEqDiff, Nat.reduceAdd, Nat.reduceMul, Nat.reduceSub, Nat.reduceLeDiff, Nat.reduceLT, reduceCtorEq, if_true, eq_self, forall_const, implies_true]⟩
            · have h3i : ¬ (x.length : Int) < (0 : Int) := by omega
              rw [decide_eq_false h3, Bool.false_or] at hbl0
              by_cases h4 : x.length = best.length
              · have h4b : (x.length == best.length) = true := by simpa using h4
                have h4i : ((x.length : Int) == (0 : Int)) = true := by rw [beq_iff_eq]; omega
                have Aa : ∀ (K : KBox), @useI c65 [.row kx 0 x.length 1, .v (.slice none 0 0)] m K = K.q (.v (.bool (aheadF x best))) m := fun K => a65 hX1 hB1 (by omega) (by omega)
                rw [h4b, Bool.true_and] at hbl0
                cases h5 : aheadF x best with
                | true =>
                  rw [h5] at hbl0
                  simp (maxSteps := 2000000) -implicitDefEqProofs only [↓k37, ↓k65, ↓v_kq, Ax, Ab, Aa, List.append_nil, c0, c1, hm, hcell, w2, gt_iff_lt, h2, Int.lt_irrefl, beq_self_eq_true, h3i, h4i, h5, s_alt, s_alt20, s_alt2t, s_alt2f, ↓s_loopi, ↓v_pq, ↓PRE, POST, CORE, Nat.reduceDiv, Nat.reduceMod, Int.reduceLT, Int.reduceLE, Int.reduceToNat, Int.reduceAdd, ↓reduceIte, Nat.reduceEqDiff, Nat.reduceAdd, Nat.reduceMul, Nat.reduceSub, Nat.reduceLeDiff, Nat.reduceLT, reduceCtorEq, if_true, eq_self, forall_const, implies_true]
                  exact ⟨(.row kx 0 x.length 1, x), new hbl0, by simp only [FitS]; simp (maxSteps := 2000000) -implicitDefEqProofs only [hcast2, s_alt, s_alt20, s_alt2t, s_alt2f, ↓s_loopi, ↓v_pq, ↓PRE, POST, CORE, Nat.reduceDiv, Nat.reduceMod, Int.reduceLT, Int.reduceLE, Int.reduceToNat, Int.reduceAdd, ↓reduceIte, Nat.reduceEqDiff, Nat.reduceAdd, Nat.reduceMul, Nat.reduceSub, Nat.reduceLeDiff, Nat.reduceLT, reduceCtorEq, if_true, eq_self, forall_const, implies_true]⟩
                | false =>
                  rw [h5] at hbl0
                  simp (maxSteps := 2000000) -implicitDefEqProofs only [↓k37, ↓k65, ↓v_kq, Ax, Ab, Aa, List.append_nil, c0, c1, hm, hcell, w2, gt_iff_lt, h2, Int.lt_irrefl, beq_self_eq_true, h3i, h4i, h5, s_alt, s_alt20, s_alt2t, s_alt2f, ↓s_loopi, ↓v_pq, ↓PRE, POST, CORE, Nat.reduceDiv, Nat.reduceMod, Int.reduceLT, Int.reduceLE, Int.reduceToNat, Int.reduceAdd, ↓reduceIte, Nat.reduceEqDiff, Nat.reduceAdd, Nat.reduceMul, Nat.reduceSub, Nat.reduceLeDiff, Nat.reduceLT, reduceCtorEq, if_true, eq_self, forall_const, implies_true]
                  exact ⟨(.v (.slice none 0 0), best), old hbl0, by simp only [FitS]; simp (maxSteps := 2000000) -implicitDefEqProofs only [hcast2, s_alt, s_alt20, s_alt2t, s_alt2f, ↓s_loopi, ↓v_pq, ↓PRE, POST, CORE, Nat.reduceDiv, Nat.reduceMod, Int.reduceLT, Int.reduceLE, Int.reduceToNat, Int.reduceAdd, ↓reduceIte, Nat.reduceEqDiff, Nat.reduceAdd, Nat.reduceMul, Nat.reduceSub, Nat.reduceLeDiff, Nat.reduceLT, reduceCtorEq, if_true, eq_self, forall_const, implies_true]⟩
              · have h4b : (x.length == best.length) = false := by simpa using h4
                have h4i : ((x.length : Int) == (0 : Int)) = false := by rw [beq_eq_false_iff_ne]; omega
                rw [h4b, Bool.false_and] at hbl0
                simp (maxSteps := 2000000) -implicitDefEqProofs only [↓k37, ↓k65, ↓v_kq, Ax, Ab, List.append_nil, c0, c1, hm, hcell, w2, gt_iff_lt, h2, Int.lt_irrefl, beq_self_eq_true, h3i, h4i, s_alt, s_alt20, s_alt2t, s_alt2f, ↓s_loopi, ↓v_pq, ↓PRE, POST, CORE, Nat.reduceDiv, Nat.reduceMod, Int.reduceLT, Int.reduceLE, Int.reduceToNat, Int.reduceAdd, ↓reduceIte, Nat.reduceEqDiff, Nat.reduceAdd, Nat.reduceMul, Nat.reduceSub, Nat.reduceLeDiff, Nat.reduceLT, reduceCtorEq, if_true, eq_self, forall_const, implies_true]
                exact ⟨(.v (.slice none 0 0), best), old hbl0, by simp only [FitS]; simp (maxSteps := 2000000) -implicitDefEqProofs only [hcast2, s_alt, s_alt20, s_alt2t, s_alt2f, ↓s_loopi, ↓v_pq, ↓PRE, POST, CORE, Nat.reduceDiv, Nat.reduceMod, Int.reduceLT, Int.reduceLE, Int.reduceToNat, Int.reduceAdd, ↓reduceIte, Nat.reduceEqDiff, Nat.reduceAdd, Nat.reduceMul, Nat.reduceSub, Nat.reduceLeDiff, Nat.reduceLT, reduceCtorEq, if_true, eq_self, forall_const, implies_true]⟩
          · have h2b : (sumC l n x == sumC l n best) = false := by simpa using h2
            rw [h2b, Bool.false_and] at hbl0
            simp (maxSteps := 2000000) -implicitDefEqProofs only [↓k37, ↓k65, ↓v_kq, Ax, Ab, List.append_nil, c0, c1, hm, hcell, w2, gt_iff_lt, h1, h2b, s_alt, s_alt20, s_alt2t, s_alt2f, ↓s_loopi, ↓v_pq, ↓PRE, POST, CORE, Nat.reduceDiv, Nat.reduceMod, Int.reduceLT, Int.reduceLE, Int.reduceToNat, Int.reduceAdd, ↓reduceIte, Nat.reduceEqDiff, Nat.reduceAdd, Nat.reduceMul, Nat.reduceSub, Nat.reduceLeDiff, Nat.reduceLT, reduceCtorEq, if_true, eq_self, forall_const, implies_true]
            exact ⟨(.v (.slice none 0 0), best), old hbl0, by simp only [FitS]; simp (maxSteps := 2000000) -implicitDefEqProofs only [hcast2, s_alt, s_alt20, s_alt2t, s_alt2f, ↓s_loopi, ↓v_pq, ↓PRE, POST, CORE, Nat.reduceDiv, Nat.reduceMod, Int.reduceLT, Int.reduceLE, Int.reduceToNat, Int.reduceAdd, ↓reduceIte, Nat.reduceEqDiff, Nat.reduceAdd, Nat.reduceMul, Nat.reduceSub, Nat.reduceLeDiff, Nat.reduceLT, reduceCtorEq, if_true, eq_self, forall_const, implies_true]⟩
      ·
        by_cases h1 : sumC l n best < sumC l n x
        · simp (maxSteps := 2000000) -implicitDefEqProofs only [↓k37, ↓k65, ↓v_kq, Ax, Ab, List.append_nil, c0, c1, hm, hcell, w2, gt_iff_lt, h1, s_alt, s_alt20, s_alt2t, s_alt2f, ↓s_loopi, ↓v_pq, ↓PRE, POST, CORE, Nat.reduceDiv, Nat.reduceMod, Int.reduceLT, Int.reduceLE, Int.reduceToNat, Int.reduceAdd, ↓reduceIte, Nat.reduceEqDiff, Nat.reduceAdd, Nat.reduceMul, Nat.reduceSub, Nat.reduceLeDiff, Nat.reduceLT, reduceCtorEq, if_true, eq_self, forall_const, implies_true]
          exact ⟨(.row kx 0 x.length 1, x), new (by rw [hbl0, decide_eq_true h1]; rfl), by simp only [FitS]; simp (maxSteps := 2000000) -implicitDefEqProofs only [hcast2, s_alt, s_alt20, s_alt2t, s_alt2f, ↓s_loopi, ↓v_pq, ↓PRE, POST, CORE, Nat.reduceDiv, Nat.reduceMod, Int.reduceLT, Int.reduceLE, Int.reduceToNat, Int.reduceAdd, ↓reduceIte, Nat.reduceEqDiff, Nat.reduceAdd, Nat.reduceMul, Nat.reduceSub, Nat.reduceLeDiff, Nat.reduceLT, reduceCtorEq, if_true, eq_self, forall_const, implies_true]⟩
        · rw [decide_eq_false h1, Bool.false_or] at hbl0
          by_cases h2 : sumC l n x = sumC l n best
          · have h2b : (sumC l n x == sumC l n best) = true := by simpa using h2
            rw [h2b, Bool.true_and] at hbl0
            by_cases h3 : x.length < best.length
            · have h3i : (x.length : Int) < (best.length : Int) := by omega
              simp (maxSteps := 2000000) -implicitDefEqProofs only [↓k37, ↓k65, ↓v_kq, Ax, Ab, List.append_nil, c0, c1, hm, hcell, w2, gt_iff_lt, h2, Int.lt_irrefl, beq_self_eq_true, h3i, s_alt, s_alt20, s_alt2t, s_alt2f, ↓s_loopi, ↓v_pq, ↓PRE, POST, CORE, Nat.reduceDiv, Nat.reduceMod, Int.reduceLT, Int.reduceLE, Int.reduceToNat, Int.reduceAdd, ↓reduceIte, Nat.reduceEqDiff, Nat.reduceAdd, Nat.reduceMul, Nat.reduceSub, Nat.reduceLeDiff, Nat.reduceLT, reduceCtorEq, if_true, eq_self, forall_const, implies_true]
              exact ⟨(.row kx 0 x.length 1, x), new (by rw [hbl0, decide_eq_true h3]; rfl), by simp only [FitS]; simp (maxSteps := 2000000) -implicitDefEqProofs only [hcast2, s_alt, s_alt20, s_alt2t, s_alt2f, ↓s_loopi, ↓v_pq, ↓PRE, POST, CORE, Nat.reduceDiv, Nat.reduceMod, Int.reduceLT, Int.reduceLE, Int.reduceToNat, Int.reduceAdd, ↓reduceIte, Nat.reduceEqDiff, Nat.reduceAdd, Nat.reduceMul, Nat.reduceSub, Nat.reduceLeDiff, Nat.reduceLT, reduceCtorEq, if_true, eq_self, forall_const, implies_true]⟩
            · have h3i : ¬ (x.length : Int) < (best.length : Int) := by omega
              rw [decide_eq_false h3, Bool.false_or] at hbl0
              by_cases h4 : x.length = best.length
              · have h4b : (x.length == best.length) = true := by simpa using h4
                have h4i : ((x.length : Int) == (best.length : Int)) = true := by rw [beq_iff_eq]; omega
                have Aa : ∀ (K : KBox), @useI c65 [.row kx 0 x.length 1, .row kB 0 best.length 1] m K = K.q (.v (.bool (aheadF x best))) m := fun K => a65 hX1 hB1 (by omega) (by omega)
                rw [h4b, Bool.true_and] at hbl0
                cases h5 : aheadF x best with
                | true =>
                  rw [h5] at hbl0
                  simp (maxSteps := 2000000) -implicitDefEqProofs only [↓k37, ↓k65, ↓v_kq, Ax, Ab, Aa, List.append_nil, c0, c1, hm, hcell, w2, gt_iff_lt, h2, Int.lt_irrefl, beq_self_eq_true, h3i, h4i, h5, s_alt, s_alt20, s_alt2t, s_alt2f, ↓s_loopi, ↓v_pq, ↓PRE, POST, CORE, Nat.reduceDiv, Nat.reduceMod, Int.reduceLT, Int.reduceLE, Int.reduceToNat, Int.reduceAdd, ↓reduceIte, Nat.reduceEqDiff, Nat.reduceAdd, Nat.reduceMul, Nat.reduceSub, Nat.reduceLeDiff, Nat.reduceLT, reduceCtorEq, if_true, eq_self, forall_const, implies_true]
                  exact ⟨(.row kx 0 x.length 1, x), new hbl0, by simp only [FitS]; simp (maxSteps := 2000000) -implicitDefEqProofs only [hcast2, s_alt, s_alt20, s_alt2t, s_alt2f, ↓s_loopi, ↓v_pq, ↓PRE, POST, CORE, Nat.reduceDiv, Nat.reduceMod, Int.reduceLT, Int.reduceLE, Int.reduceToNat, Int.reduceAdd, ↓reduceIte, Nat.reduceEqDiff, Nat.reduceAdd, Nat.reduceMul, Nat.reduceSub, Nat.reduceLeDiff, Nat.reduceLT, reduceCtorEq, if_true, eq_self, forall_const, implies_true]⟩
                | false =>
                  rw [h5] at hbl0
                  simp (maxSteps := 2000000) -implicitDefEqProofs only [↓k37, ↓k65, ↓v_kq, Ax, Ab, Aa, List.append_nil, c0, c1, hm, hcell, w2, gt_iff_lt, h2, Int.lt_irrefl, beq_self_eq_true, h3i, h4i, h5, s_alt, s_alt20, s_alt2t, s_alt2f, ↓s_loopi, ↓v_pq, ↓PRE, POST, CORE, Nat.reduceDiv, Nat.reduceMod, Int.reduceLT, Int.reduceLE, Int.reduceToNat, Int.reduceAdd, ↓reduceIte, Nat.reduceEqDiff, Nat.reduceAdd, Nat.reduceMul, Nat.reduceSub, Nat.reduceLeDiff, Nat.reduceLT, reduceCtorEq, if_true, eq_self, forall_const, implies_true]
                  exact ⟨(.row kB 0 best.length 1, best), old hbl0, by simp only [FitS]; simp (maxSteps := 2000000) -implicitDefEqProofs only [hcast2, s_alt, s_alt20, s_alt2t, s_alt2f, ↓s_loopi, ↓v_pq, ↓PRE, POST, CORE, Nat.reduceDiv, Nat.reduceMod, Int.reduceLT, Int.reduceLE, Int.reduceToNat, Int.reduceAdd, ↓reduceIte, Nat.reduceEqDiff, Nat.reduceAdd, Nat.reduceMul, Nat.reduceSub, Nat.reduceLeDiff, Nat.reduceLT, reduceCtorEq, if_true, eq_self, forall_const, implies_true]⟩
              · have h4b : (x.length == best.length) = false := by simpa using h4
                have h4i : ((x.length : Int) == (best.length : Int)) = false := by rw [beq_eq_false_iff_ne]; omega
                rw [h4b, Bool.false_and] at hbl0
                simp (maxSteps := 2000000) -implicitDefEqProofs only [↓k37, ↓k65, ↓v_kq, Ax, Ab, List.append_nil, c0, c1, hm, hcell, w2, gt_iff_lt, h2, Int.lt_irrefl, beq_self_eq_true, h3i, h4i, s_alt, s_alt20, s_alt2t, s_alt2f, ↓s_loopi, ↓v_pq, ↓PRE, POST, CORE, Nat.reduceDiv, Nat.reduceMod, Int.reduceLT, Int.reduceLE, Int.reduceToNat, Int.reduceAdd, ↓reduceIte, Nat.reduceEqDiff, Nat.reduceAdd, Nat.reduceMul, Nat.reduceSub, Nat.reduceLeDiff, Nat.reduceLT, reduceCtorEq, if_true, eq_self, forall_const, implies_true]
                exact ⟨(.row kB 0 best.length 1, best), old hbl0, by simp only [FitS]; simp (maxSteps := 2000000) -implicitDefEqProofs only [hcast2, s_alt, s_alt20, s_alt2t, s_alt2f, ↓s_loopi, ↓v_pq, ↓PRE, POST, CORE, Nat.reduceDiv, Nat.reduceMod, Int.reduceLT, Int.reduceLE, Int.reduceToNat, Int.reduceAdd, ↓reduceIte, Nat.reduceEqDiff, Nat.reduceAdd, Nat.reduceMul, Nat.reduceSub, Nat.reduceLeDiff, Nat.reduceLT, reduceCtorEq, if_true, eq_self, forall_const, implies_true]⟩
          · have h2b : (sumC l n x == sumC l n best) = false := by simpa using h2
            rw [h2b, Bool.false_and] at hbl0
            simp (maxSteps := 2000000) -implicitDefEqProofs only [↓k37, ↓k65, ↓v_kq, Ax, Ab, List.append_nil, c0, c1, hm, hcell, w2, gt_iff_lt, h1, h2b, s_alt, s_alt20, s_alt2t, s_alt2f, ↓s_loopi, ↓v_pq, ↓PRE, POST, CORE, Nat.reduceDiv, Nat.reduceMod, Int.reduceLT, Int.reduceLE, Int.reduceToNat, Int.reduceAdd, ↓reduceIte, Nat.reduceEqDiff, Nat.reduceAdd, Nat.reduceMul, Nat.reduceSub, Nat.reduceLeDiff, Nat.reduceLT, reduceCtorEq, if_true, eq_self, forall_const, implies_true]
            exact ⟨(.row kB 0 best.length 1, best), old hbl0, by simp only [FitS]; simp (maxSteps := 2000000) -implicitDefEqProofs only [hcast2, s_alt, s_alt20, s_alt2t, s_alt2f, ↓s_loopi, ↓v_pq, ↓PRE, POST, CORE, Nat.reduceDiv, Nat.reduceMod, Int.reduceLT, Int.reduceLE, Int.reduceToNat, Int.reduceAdd, ↓reduceIte, Nat.reduceEqDiff, Nat.reduceAdd, Nat.reduceMul, Nat.reduceSub, Nat.reduceLeDiff, Nat.reduceLT, reduceCtorEq, if_true, eq_self, forall_const, implies_true]⟩
  · rintro ⟨sB, best⟩ ⟨⟨_, _, hB3⟩, hbest, _, _⟩
    simp only at hB3 hbest ⊢
    have j1 : ¬ (X.length : Int) < (X.length : Int) := by omega
    rw [List.take_length] at hbest
    rw [← hbest] at hk
    simp (maxSteps := 2000000) -implicitDefEqProofs only [j1, s_alt, s_alt20, s_alt2t, s_alt2f, ↓s_loopi, ↓v_pq, ↓PRE, POST, CORE, Nat.reduceDiv, Nat.reduceMod, Int.reduceLT, Int.reduceLE, Int.reduceToNat, Int.reduceAdd, ↓reduceIte, Nat.reduceEqDiff, Nat.reduceAdd, Nat.reduceMul, Nat.reduceSub, Nat.reduceLeDiff, Nat.reduceLT, reduceCtorEq, if_true, eq_self, forall_const, implies_true]
    rcases hB3 with ⟨rfl, rfl⟩ | ⟨kk, hb0, rfl, hkk⟩
    · refine ⟨[], .v (.slice none 0 0), [], by simp [NdL], trivial, by simp, by simp only [Le], ?_⟩
      rw [List.length_nil, rS_0, iL_nil, rM_0, List.append_nil] at hk
      simpa [SV.up] using hk
    · obtain ⟨e8, e9⟩ := ne_facts hb0
      rw [e8, e9] at hk
      exact fin_i _ _ _ kk hkk hk
end Qu
end Go.Proofs.Ytcejgadbpahbmaa
end
section
namespace Go.Proofs.Ytcejgadbpahbmaa.Qu
def chk1 : Bool := (List.range 128).all fun x => decide (popE (x : Int) = ((bitsL x 7).length : Int))
theorem chk1_ok : chk1 = true := by kernel_rfl
def low (x y : Nat) : Bool := andU (x : Int) (andU (xorU (x : Int) (y : Int)) (IntKind.u64.wrap (0 - xorU (x : Int) (y : Int)))) != 0
def chk2 : Bool := (List.range 128).all fun x => (List.range 128).all fun y => !((bitsL x 7).length == (bitsL y 7).length) || (low x y == aheadF (bitsL x 7) (bitsL y 7))
theorem chk2_ok : chk2 = true := by kernel_rfl
end Go.Proofs.Ytcejgadbpahbmaa.Qu
end
section
namespace Go.Proofs.Ytcejgadbpahbmaa.Qu
open Rc
theorem pop_ok {x : Nat} (h : x < 128) : popE (x : Int) = ((bitsL x 7).length : Int) := by
  have := List.all_eq_true.1 chk1_ok x (List.mem_range.2 h)
  exact of_decide_eq_true this
theorem low_ok {x y : Nat} (hx : x < 128) (hy : y < 128) (h : (bitsL x 7).length = (bitsL y 7).length) : low x y = aheadF (bitsL x 7) (bitsL y 7) := by
  have := List.all_eq_true.1 (List.all_eq_true.1 chk2_ok x (List.mem_range.2 hx)) y (List.mem_range.2 hy)
  rw [h, beq_self_eq_true, Bool.not_true, Bool.false_or] at this
  exact eq_of_beq this
theorem bits_up {m i : Nat} (h : m < 2 ^ i) : ∀ k, bitsL m (i + k) = bitsL m i
  | 0 => rfl
  | k + 1 => by
    have : m.testBit (i + k) = false := Nat.testBit_lt_two_pow (Nat.lt_of_lt_of_le h (Nat.pow_le_pow_right (by omega) (by omega)))
    rw [← Nat.add_assoc, bitsL_succ, this, bits_up h k]
    simp
theorem ahead_irr : ∀ a : List Int, aheadF a a = false
  | [] => rfl
  | x :: a => by rw [aheadF, if_pos rfl]; exact ahead_irr a
theorem ahead_tot : ∀ {a b : List Int}, a.length = b.length → a ≠ b → aheadF a b = !aheadF b a
  | [], [], _, h => absurd rfl h
  | [], y :: b, h, _ => by simp at h
  | x :: a, [], h, _ => by simp at h
  | x :: a, y :: b, h, hne => by
    by_cases e : x = y
    · subst e
      rw [aheadF, if_pos rfl, aheadF, if_pos rfl]
      exact ahead_tot (by simpa using h) (fun q => hne (by rw [q]))
    · rw [aheadF, if_neg e, aheadF, if_neg (Ne.symm e)]
      by_cases h1 : x < y
      · rw [decide_eq_true h1, decide_eq_false (by omega)]; rfl
      · rw [decide_eq_false h1, decide_eq_true (by omega)]; rfl
theorem ahead_trans : ∀ {a b c : List Int}, a.length = b.length → b.length = c.length → aheadF a b = true → aheadF b c = true → aheadF a c = true
  | [], b, c, h, _, h1, _ => by simp [aheadF] at h1
  | x :: a, [], c, h, _, _, _ => by simp at h
  | x :: a, y :: b, [], _, h, _, _ => by simp at h
  | x :: a, y :: b, z :: c, h, h', h1, h2 => by
    rw [aheadF] at h1 h2 ⊢
    by_cases e1 : x = y
    · subst e1
      rw [if_pos rfl] at h1
      by_cases e2 : x = z
      · subst e2
        rw [if_pos rfl] at h2 ⊢
        exact ahead_trans (by simpa using h) (by simpa using h') h1 h2
      · rw [if_neg e2] at h2 ⊢
        exact h2
    · rw [if_neg e1] at h1
      have h1' := of_decide_eq_true h1
      by_cases e2 : y = z
      · subst e2
        rw [if_neg e1]
        exact h1
      · rw [if_neg e2] at h2
        have h2' := of_decide_eq_true h2
        rw [if_neg (by omega)]
        exact decide_eq_true (by omega)
section
variable {l : List Ra.Rg} {n : Int}
theorem betL_iff {x y : List Int} : betL l n x y = true ↔ sumC l n y < sumC l n x ∨ (sumC l n x = sumC l n y ∧ (x.length < y.length ∨ (x.length = y.length ∧ aheadF x y = true))) := by
  unfold betL
  simp only [Bool.or_eq_true, Bool.and_eq_true, decide_eq_true_eq, beq_iff_eq]
theorem betL_tot {x y : List Int} (h : x ≠ y) : betL l n x y = true ∨ betL l n y x = true := by
  rw [betL_iff, betL_iff]
  rcases Int.lt_trichotomy (sumC l n x) (sumC l n y) with h1 | h1 | h1
  · exact .inr (.inl h1)
  · rcases Nat.lt_trichotomy x.length y.length with h2 | h2 | h2
    · exact .inl (.inr ⟨h1, .inl h2⟩)
    · have := ahead_tot h2 h
      cases h3 : aheadF y x with
      | true => exact .inr (.inr ⟨h1.symm, .inr ⟨h2.symm, rfl⟩⟩)
      | false => rw [h3] at this; exact .inl (.inr ⟨h1, .inr ⟨h2, this⟩⟩)
    · exact .inr (.inr ⟨h1.symm, .inl h2⟩)
  · exact .inl (.inl h1)
theorem betL_asym {x y : List Int} (h : betL l n x y = true) (h2 : betL l n y x = true) : False := by
  rw [betL_iff] at h h2
  rcases h with h | ⟨e1, h⟩
  · rcases h2 with h2 | ⟨e2, _⟩ <;> omega
  · rcases h2 with h2 | ⟨e2, h2⟩
    · omega
    · rcases h with h | ⟨e3, h⟩
      · rcases h2 with h2 | ⟨e4, _⟩ <;> omega
      · rcases h2 with h2 | ⟨e4, h2⟩
        · omega
        · by_cases e : x = y
          · subst e; rw [ahead_irr] at h; cases h
          · have := ahead_tot e3 e
            rw [h, h2] at this
            cases this
theorem betL_trans {x y z : List Int} (h : betL l n x y = true) (h2 : betL l n y z = true) : betL l n x z = true := by
  rw [betL_iff] at h h2 ⊢
  rcases h with h | ⟨e1, h⟩
  · rcases h2 with h2 | ⟨e2, _⟩
    · exact .inl (by omega)
    · exact .inl (by omega)
  · rcases h2 with h2 | ⟨e2, h2⟩
    · exact .inl (by omega)
    · refine .inr ⟨by omega, ?_⟩
      rcases h with h | ⟨e3, h⟩
      · rcases h2 with h2 | ⟨e4, _⟩
        · exact .inl (by omega)
        · exact .inl (by omega)
      · rcases h2 with h2 | ⟨e4, h2⟩
        · exact .inl (by omega)
        · exact .inr ⟨by omega, ahead_trans e3 e4 h h2⟩
theorem ref_best : ∀ (X : List (List Int)) (b : List Int), (X.foldl (refS l n) b = b ∨ X.foldl (refS l n) b ∈ X) ∧ ∀ x, x = b ∨ x ∈ X → x = X.foldl (refS l n) b ∨ betL l n (X.foldl (refS l n) b) x = true
  | [], b => ⟨.inl rfl, fun x hx => .inl (hx.elim id (fun h => by cases h))⟩
  | y :: X, b => by
    rw [List.foldl_cons]
    obtain ⟨h1, h2⟩ := ref_best X (refS l n b y)
    have hs : refS l n b y = b ∨ refS l n b y = y := by unfold refS; split <;> simp
    refine ⟨?_, fun x hx => ?_⟩
    · rcases h1 with h1 | h1
      · rw [h1]; exact hs.imp id fun e => by rw [e]; exact List.mem_cons_self
      · exact .inr (List.mem_cons_of_mem _ h1)
    · have key : ∀ z, z = b ∨ z = y → z = refS l n b y ∨ betL l n (refS l n b y) z = true := fun z hz => by
        unfold refS
        by_cases hb : betL l n y b = true
        · rw [if_pos hb]
          rcases hz with rfl | rfl
          · exact .inr hb
          · exact .inl rfl
        · rw [if_neg hb]
          rcases hz with rfl | rfl
          · exact .inl rfl
          · by_cases e : z = b
            · exact .inl e
            · rcases betL_tot (l := l) (n := n) e with q | q
              · exact absurd q hb
              · exact .inr q
      have fin : ∀ z, (z = refS l n b y ∨ betL l n (refS l n b y) z = true) → z = X.foldl (refS l n) (refS l n b y) ∨ betL l n (X.foldl (refS l n) (refS l n b y)) z = true := fun z hz => by
        have q := h2 (refS l n b y) (.inl rfl)
        rcases hz with rfl | hz
        · exact q
        · rcases q with q | q
          · rw [← q]; exact .inr hz
          · exact .inr (betL_trans q hz)
      rcases hx with rfl | hx
      · exact fin _ (key _ (.inl rfl))
      · rcases List.mem_cons.1 hx with rfl | hx
        · exact fin _ (key _ (.inr rfl))
        · exact h2 x (.inr hx)
def may (l : List Ra.Rg) (n R : Int) (i m : Nat) : Prop := m < 2 ^ i ∧ (∀ j, j < i → m.testBit j = true → cA l n (j : Int) ≠ 0) ∧ (m = 0 ∨ sumC l n (bitsL m i) ≤ R)
theorem top_bit {m i : Nat} (h : m < 2 ^ i) : (m + 2 ^ i).testBit i = true ∧ ∀ j, j < i → (m + 2 ^ i).testBit j = m.testBit j := by
  rw [Nat.add_comm]
  exact ⟨by rw [Nat.testBit_two_pow_add_eq, Nat.testBit_lt_two_pow h]; rfl, fun j hj => Nat.testBit_two_pow_add_gt hj m⟩
theorem bits_congr {m m' : Nat} : ∀ {i : Nat}, (∀ j, j < i → m.testBit j = m'.testBit j) → bitsL m i = bitsL m' i
  | 0, _ => rfl
  | i + 1, h => by rw [bitsL_succ, bitsL_succ, h i (by omega), bits_congr fun j hj => h j (by omega)]
theorem all_masks (R : Int) : ∀ (i : Nat) (x : List Int), x ∈ allF l n R i ↔ ∃ m, x = bitsL m i ∧ may l n R i m
  | 0, x => by
    rw [allF, List.mem_singleton]
    constructor
    · rintro rfl
      exact ⟨0, rfl, by simp, fun j hj => by omega, .inl rfl⟩
    · rintro ⟨m, rfl, _⟩
      rfl
  | i + 1, x => by
    have ih := all_masks R i
    have hbz : ∀ m, m < 2 ^ i → bitsL m (i + 1) = bitsL m i := fun m h => bits_up h 1
    have hlow : ∀ m, m < 2 ^ i → m.testBit i = false := fun m h => Nat.testBit_lt_two_pow h
    have hp2 : 2 ^ (i + 1) = 2 ^ i + 2 ^ i := by rw [Nat.pow_succ]; omega
    have up : x ∈ allF l n R i → ∃ m, x = bitsL m (i + 1) ∧ may l n R (i + 1) m := fun hx => by
      obtain ⟨m, rfl, h1, h2, h3⟩ := (ih x).1 hx
      refine ⟨m, (hbz m h1).symm, by omega, fun j hj hb => ?_, by rw [hbz m h1]; exact h3⟩
      rcases Nat.lt_or_ge j i with q | q
      · exact h2 j q hb
      · obtain rfl : j = i := by omega
        rw [hlow m h1] at hb; cases hb
    have down : ∀ m, x = bitsL m (i + 1) → may l n R (i + 1) m → m.testBit i = false → x ∈ allF l n R i := fun m hx ⟨h1, h2, h3⟩ hb => by
      have hm : m < 2 ^ i := by
        refine Nat.lt_of_not_le fun hge => ?_
        have := (top_bit (m := m - 2 ^ i) (i := i) (by omega)).1
        rw [show m - 2 ^ i + 2 ^ i = m by omega, hb] at this
        cases this
      rw [hbz m hm] at hx h3
      exact (ih x).2 ⟨m, hx, hm, fun j hj hb => h2 j (by omega) hb, h3⟩
    unfold allF
    by_cases hz : cA l n (i : Int) = 0
    · rw [if_pos hz]
      refine ⟨up, ?_⟩
      rintro ⟨m, hx, hm⟩
      refine down m hx hm ?_
      cases hb : m.testBit i with
      | false => rfl
      | true => exact absurd hz (hm.2.1 i (by omega) hb)
    · rw [if_neg hz, List.mem_append]
      constructor
      · rintro (hx | hx)
        · exact up hx
        · unfold addI at hx
          obtain ⟨y, hy, rfl⟩ := List.mem_map.1 hx
          obtain ⟨hy1, hy2⟩ := List.mem_filter.1 hy
          obtain ⟨m, rfl, h1, h2, h3⟩ := (ih y).1 hy1
          obtain ⟨t1, t2⟩ := top_bit h1
          have hbb : bitsL (m + 2 ^ i) (i + 1) = bitsL m i ++ [(i : Int)] := by rw [bitsL_succ, t1, if_pos rfl, bits_congr t2]
          refine ⟨m + 2 ^ i, hbb.symm, by omega, fun j hj hb => ?_, .inr ?_⟩
          · rcases Nat.lt_or_ge j i with q | q
            · exact h2 j q (by rw [← t2 j q]; exact hb)
            · obtain rfl : j = i := by omega
              exact hz
          · rw [hbb, sumC_snoc]
            exact of_decide_eq_true hy2
      · rintro ⟨m, hx, hm⟩
        cases hb : m.testBit i with
        | false => exact .inl (down m hx hm hb)
        | true =>
          right
          obtain ⟨h1, h2, h3⟩ := hm
          have hge : 2 ^ i ≤ m := Nat.ge_two_pow_of_testBit hb
          have hm0 : m - 2 ^ i < 2 ^ i := by omega
          obtain ⟨t1, t2⟩ := top_bit hm0
          rw [show m - 2 ^ i + 2 ^ i = m by omega] at t1 t2
          have hbb : bitsL m (i + 1) = bitsL (m - 2 ^ i) i ++ [(i : Int)] := by rw [bitsL_succ, t1, if_pos rfl, bits_congr t2]
          have hpos : 0 < 2 ^ i := Nat.two_pow_pos i
          have hsum : sumC l n (bitsL (m - 2 ^ i) i) + cA l n (i : Int) ≤ R := by
            rcases h3 with h3 | h3
            · omega
            · rw [hbb, sumC_snoc] at h3; exact h3
          have hc := cA_bd l n (i : Int)
          unfold addI
          refine List.mem_map.2 ⟨bitsL (m - 2 ^ i) i, List.mem_filter.2 ⟨(ih _).2 ⟨m - 2 ^ i, rfl, hm0, fun j hj hb => h2 j (by omega) (by rw [t2 j hj]; exact hb), .inr (by omega)⟩, decide_eq_true hsum⟩, by rw [hx, hbb]⟩
theorem betF_eq {N m m' : Nat} (hN : N ≤ 7) (h : m < 2 ^ N) (h' : m' < 2 ^ N) : betF (m : Int) (sumC l n (bitsL m N)) (m' : Int) (sumC l n (bitsL m' N)) = betL l n (bitsL m N) (bitsL m' N) := by
  have hp : 2 ^ N ≤ 128 := Nat.le_trans (Nat.pow_le_pow_right (by omega) hN) (by decide)
  have e1 : bitsL m 7 = bitsL m N := by have := bits_up h (7 - N); rwa [show N + (7 - N) = 7 by omega] at this
  have e2 : bitsL m' 7 = bitsL m' N := by have := bits_up h' (7 - N); rwa [show N + (7 - N) = 7 by omega] at this
  have p1 := pop_ok (x := m) (by omega)
  have p2 := pop_ok (x := m') (by omega)
  have p3 := low_ok (x := m) (y := m') (by omega) (by omega)
  rw [e1] at p1 p3
  rw [e2] at p2 p3
  unfold betF betL
  rw [p1, p2]
  unfold low at p3
  generalize sumC l n (bitsL m N) = a
  generalize sumC l n (bitsL m' N) = b
  by_cases h1 : a = b
  · subst h1
    rw [if_neg (fun q => q rfl), decide_eq_false (Int.lt_irrefl a), beq_self_eq_true, Bool.false_or, Bool.true_and]
    by_cases h2 : (bitsL m N).length = (bitsL m' N).length
    · rw [if_neg (fun q => q (by rw [h2])), p3 h2, h2, decide_eq_false (Nat.lt_irrefl _), beq_self_eq_true, Bool.false_or, Bool.true_and]
    · rw [if_pos (fun q => h2 (by omega)), beq_eq_false_iff_ne.2 h2, Bool.false_and, Bool.or_false]
      by_cases h3 : (bitsL m N).length < (bitsL m' N).length
      · rw [decide_eq_true h3, decide_eq_true (by omega)]
      · rw [decide_eq_false h3, decide_eq_false (by omega)]
  · rw [if_pos h1, beq_eq_false_iff_ne.2 h1, Bool.false_and, Bool.or_false]
theorem cost_may {b : Int} {N m : Nat} (hN : N = l.length) (h : m < 2 ^ N) : (m = 0 ∨ costM (cN l n) N m ≤ room b) ↔ may l n (room b) N m := by
  have hr64 : room b ≤ 64 := by unfold room; split <;> omega
  have hs : sumB (cN l n) m N = sumC l n (bitsL m N) := sumB_bits (cN_cA l n) m N
  constructor
  · rintro (rfl | hc)
    · exact ⟨h, fun j _ hb => by simp at hb, .inl rfl⟩
    · have hbad : badB (cN l n) m N = false := by
        cases hb : badB (cN l n) m N with
        | false => rfl
        | true => rw [costM, if_pos hb] at hc; omega
      rw [costM, hbad, if_neg (by simp), hs] at hc
      exact ⟨h, fun j hj hb => badB_false.1 hbad j hj hb, .inr hc⟩
  · rintro ⟨_, h2, h3⟩
    rcases h3 with h3 | h3
    · exact .inl h3
    · right
      have hbad : badB (cN l n) m N = false := badB_false.2 h2
      rw [costM, hbad, if_neg (by simp), hs]
      exact h3
theorem cost_sum {b : Int} {N m : Nat} (h : costM (cN l n) N m ≤ room b) : costM (cN l n) N m = sumC l n (bitsL m N) := by
  have hr64 : room b ≤ 64 := by unfold room; split <;> omega
  unfold costM at h ⊢
  split
  · rename_i hb; rw [if_pos hb] at h; omega
  · exact sumB_bits (cN_cA l n) m N
theorem best_all {b : Int} {N : Nat} (hN : N ≤ 7) : ∀ x, x < 2 ^ N → (bestM (cN l n) N (room b) x).2 = sumC l n (bitsL (bestM (cN l n) N (room b) x).1 N) ∧ (bestM (cN l n) N (room b) x).1 ≤ x ∧ ((bestM (cN l n) N (room b) x).1 = 0 ∨ costM (cN l n) N (bestM (cN l n) N (room b) x).1 ≤ room b) ∧
    ∀ m, m ≤ x → (m = 0 ∨ costM (cN l n) N m ≤ room b) → bitsL m N = bitsL (bestM (cN l n) N (room b) x).1 N ∨ betL l n (bitsL (bestM (cN l n) N (room b) x).1 N) (bitsL m N) = true
  | 0, _ => by
    have e : ∀ k, bitsL 0 k = [] := fun k => by unfold bitsL; simp
    refine ⟨by rw [bestM]; simp only; rw [e]; rfl, Nat.le_refl _, .inl rfl, fun m hm _ => .inl ?_⟩
    obtain rfl : m = 0 := by omega
    rfl
  | x + 1, hx => by
    obtain ⟨h1, h2, h3, h4⟩ := best_all hN x (by omega)
    unfold bestM
    generalize bestM (cN l n) N (room b) x = st at h1 h2 h3 h4 ⊢
    obtain ⟨M, C⟩ := st
    simp only at h1 h2 h3 h4 ⊢
    by_cases hc : costM (cN l n) N (x + 1) ≤ room b
    · have hcs := cost_sum hc
      have hbe := betF_eq (l := l) (n := n) hN hx (show M < 2 ^ N by omega)
      rw [← hcs, ← h1] at hbe
      by_cases hb : betF ((x + 1 : Nat) : Int) (costM (cN l n) N (x + 1)) (M : Int) C = true
      · rw [if_pos ⟨hc, hb⟩]
        rw [hbe] at hb
        refine ⟨hcs, Nat.le_refl _, .inr hc, fun m hm hmc => ?_⟩
        simp only
        rcases Nat.lt_or_ge x m with q | q
        · obtain rfl : m = x + 1 := by omega
          exact .inl rfl
        · right
          rcases h4 m q hmc with e | e
          · rw [e]; exact hb
          · exact betL_trans hb e
      · rw [if_neg (fun q => hb q.2)]
        rw [hbe] at hb
        refine ⟨h1, by simp only; omega, h3, fun m hm hmc => ?_⟩
        simp only
        rcases Nat.lt_or_ge x m with q | q
        · obtain rfl : m = x + 1 := by omega
          by_cases e : bitsL (x + 1) N = bitsL M N
          · exact .inl e
          · rcases betL_tot (l := l) (n := n) e with q2 | q2
            · exact absurd q2 hb
            · exact .inr q2
        · exact h4 m q hmc
    · rw [if_neg (fun q => hc q.1)]
      refine ⟨h1, by simp only; omega, h3, fun m hm hmc => ?_⟩
      simp only
      rcases Nat.lt_or_ge x m with q | q
      · obtain rfl : m = x + 1 := by omega
        rcases hmc with hmc | hmc
        · omega
        · exact absurd hmc hc
      · exact h4 m q hmc
theorem full_eq {b : Int} (h : l.length ≤ 7 ∨ 12 < l.length) : fullF l b n = refF l b n := by
  unfold fullF refF
  rcases h with h | h
  · rw [if_neg (by omega), if_neg (by omega)]
    have hpos : 0 < 2 ^ l.length := Nat.two_pow_pos _
    obtain ⟨h1, h2, h3, h4⟩ := best_all (l := l) (n := n) (b := b) h (2 ^ l.length - 1) (by omega)
    obtain ⟨r1, r2⟩ := ref_best (l := l) (n := n) (allF l n (room b) l.length) []
    generalize (bestM (cN l n) l.length (room b) (2 ^ l.length - 1)).1 = M at h1 h2 h3 h4 ⊢
    have hM : bitsL M l.length ∈ allF l n (room b) l.length := (all_masks (room b) _ _).2 ⟨M, rfl, (cost_may rfl (by omega)).1 h3⟩
    have hr : (allF l n (room b) l.length).foldl (refS l n) [] ∈ allF l n (room b) l.length := by
      rcases r1 with r1 | r1
      · rw [r1]
        exact (all_masks (room b) _ _).2 ⟨0, by unfold bitsL; simp, hpos, fun j _ hb => by simp at hb, .inl rfl⟩
      · exact r1
    obtain ⟨m, hm1, hm2⟩ := (all_masks (room b) _ _).1 hr
    have q1 := r2 _ (.inr hM)
    have q2 := h4 m (by have := hm2.1; omega) ((cost_may rfl hm2.1).2 hm2)
    rw [← hm1] at q2
    rcases q1 with q1 | q1
    · exact q1
    · rcases q2 with q2 | q2
      · exact q2.symm
      · exact (betL_asym q1 q2).elim
  · rw [if_pos h, if_pos h]
end
end Go.Proofs.Ytcejgadbpahbmaa.Qu
end
