/- Walks and plain facts for the law QuotaMost, part MQME. No condition. -/
import Derived.Test.YtcejgadbpahbmaaMQMD
import Derived.Test.YtcejgadbpahbmaaMQMA
import Derived.ProofKit
import Derived.OpenShut
import Derived.Deep.Slices
import Derived.Test.YtcejgadbpahbmaaMQMC
import Derived.SizedLaws
set_option linter.unusedVariables false
set_option linter.unusedSimpArgs false
section
namespace Go.Proofs.Ytcejgadbpahbmaa
open Go.RowKit Sz
set_option maxHeartbeats 16000000
set_option maxRecDepth 20000
namespace Qu
open Rc
-- math/bits.OnesCount64 (1 parameters)
def x117 : XC := (.seq (.tree (.seq ⟨some 2, none, (.ofA (.mv (.cst (.v (.int .i64 0)))))⟩
 .done))
 (.seq (.tree (.seq ⟨some 3, none, (.ofA (.mv (.tmp 0)))⟩
 (.seq ⟨some 4, none, (.ofA (.bin .shr (.tmp 3) (.cst (.v (.int .u64 1)))))⟩
 (.seq ⟨some 5, none, (.ofA (.bin .and (.tmp 4) (.cst (.v (.int .u64 6148914691236517205)))))⟩
 (.seq ⟨some 6, none, (.ofA (.mv (.tmp 0)))⟩
 (.seq ⟨some 7, none, (.ofA (.bin .and (.tmp 6) (.cst (.v (.int .u64 6148914691236517205)))))⟩
 (.seq ⟨some 8, none, (.ofA (.bin .add (.tmp 5) (.tmp 7)))⟩
 (.seq ⟨some 0, none, (.ofA (.mv (.tmp 8)))⟩
 .done))))))))
 (.seq (.tree (.seq ⟨some 9, none, (.ofA (.mv (.tmp 0)))⟩
 (.seq ⟨some 10, none, (.ofA (.bin .shr (.tmp 9) (.cst (.v (.int .u64 2)))))⟩
 (.seq ⟨some 11, none, (.ofA (.bin .and (.tmp 10) (.cst (.v (.int .u64 3689348814741910323)))))⟩
 (.seq ⟨some 12, none, (.ofA (.mv (.tmp 0)))⟩
 (.seq ⟨some 13, none, (.ofA (.bin .and (.tmp 12) (.cst (.v (.int .u64 3689348814741910323)))))⟩
 (.seq ⟨some 14, none, (.ofA (.bin .add (.tmp 11) (.tmp 13)))⟩
 (.seq ⟨some 0, none, (.ofA (.mv (.tmp 14)))⟩
 .done))))))))
 (.seq (.tree (.seq ⟨some 15, none, (.ofA (.mv (.tmp 0)))⟩
 (.seq ⟨some 16, none, (.ofA (.bin .shr (.tmp 15) (.cst (.v (.int .u64 4)))))⟩
 (.seq ⟨some 17, none, (.ofA (.mv (.tmp 0)))⟩
 (.seq ⟨some 18, none, (.ofA (.bin .add (.tmp 16) (.tmp 17)))⟩
 (.seq ⟨some 19, none, (.ofA (.bin .and (.tmp 18) (.cst (.v (.int .u64 1085102592571150095)))))⟩
 (.seq ⟨some 0, none, (.ofA (.mv (.tmp 19)))⟩
 .done)))))))
 (.seq (.tree (.seq ⟨some 20, none, (.ofA (.mv (.tmp 0)))⟩
 (.seq ⟨some 21, none, (.ofA (.mv (.tmp 0)))⟩
 (.seq ⟨some 22, none, (.ofA (.bin .shr (.tmp 21) (.cst (.v (.int .u64 8)))))⟩
 (.seq ⟨some 23, none, (.ofA (.bin .add (.tmp 20) (.tmp 22)))⟩
 (.seq ⟨some 0, none, (.ofA (.mv (.tmp 23)))⟩
 .done))))))
 (.seq (.tree (.seq ⟨some 24, none, (.ofA (.mv (.tmp 0)))⟩
 (.seq ⟨some 25, none, (.ofA (.mv (.tmp 0)))⟩
 (.seq ⟨some 26, none, (.ofA (.bin .shr (.tmp 25) (.cst (.v (.int .u64 16)))))⟩
 (.seq ⟨some 27, none, (.ofA (.bin .add (.tmp 24) (.tmp 26)))⟩
 (.seq ⟨some 0, none, (.ofA (.mv (.tmp 27)))⟩
 .done))))))
 (.seq (.tree (.seq ⟨some 28, none, (.ofA (.mv (.tmp 0)))⟩
 (.seq ⟨some 29, none, (.ofA (.mv (.tmp 0)))⟩
 (.seq ⟨some 30, none, (.ofA (.bin .shr (.tmp 29) (.cst (.v (.int .u64 32)))))⟩
 (.seq ⟨some 31, none, (.ofA (.bin .add (.tmp 28) (.tmp 30)))⟩
 (.seq ⟨some 0, none, (.ofA (.mv (.tmp 31)))⟩
 .done))))))
 (.seq (.tree (.seq ⟨some 32, none, (.ofA (.mv (.tmp 0)))⟩
 (.seq ⟨some 33, none, (.ofA (.conv .i64 (.tmp 32)))⟩
 (.seq ⟨some 34, none, (.ofA (.bin .and (.tmp 33) (.cst (.v (.int .i64 127)))))⟩
 (.seq ⟨some 2, none, (.ofA (.mv (.tmp 34)))⟩
 .done)))))
 .ret))))))))
def r117 : List XR := [.tmp 2]
theorem fn117 : FnX Try.prog 117 [82, 68, 97, 118] 35 x117 r117 := ⟨_, Try.func117, by kernel_rfl, by kernel_rfl, by kernel_rfl, by kernel_rfl⟩
-- math/bits.OnesCount (1 parameters)
def x95 : XC := (.seq (.tree (.seq ⟨some 2, none, (.ofA (.mv (.cst (.v (.int .i64 0)))))⟩
 .done))
 (.seq (.cond (.cst (.v (.bool false)))
 (.seq (.tree (.seq ⟨some 3, none, (.ofA (.mv (.tmp 0)))⟩
 (.seq ⟨some 4, none, (.ofA (.conv .u32 (.tmp 3)))⟩
 (.seq ⟨some 5, none, (.call (.cst (.fn 116 [])) [(.tmp 4)])⟩
 (.seq ⟨some 2, none, (.ofA (.mv (.tmp 5)))⟩
 .done)))))
 .ret)
 .skip)
 (.seq (.tree (.seq ⟨some 6, none, (.ofA (.mv (.tmp 0)))⟩
 (.seq ⟨some 7, none, (.call (.cst (.fn 117 [])) [(.tmp 6)])⟩
 (.seq ⟨some 2, none, (.ofA (.mv (.tmp 7)))⟩
 .done))))
 .ret)))
def r95 : List XR := [.tmp 2]
theorem fn95 : FnX Try.prog 95 [82, 68, 97, 118] 8 x95 r95 := ⟨_, Try.func95, by kernel_rfl, by kernel_rfl, by kernel_rfl, by kernel_rfl⟩
-- (almshouse/quota.choice).better (2 parameters)
def x63 : XC := (.seq (.tree (.seq ⟨some 2, none, (.box (.tmp 0))⟩
 (.seq ⟨some 3, none, (.box (.tmp 1))⟩
 (.seq ⟨some 4, none, (.ofA (.mv (.cst (.v (.bool false)))))⟩
 .done))))
 (.seq (.seq (.tree (.seq ⟨some 8, none, (.ofA (.faddr 1 (.tmp 2)))⟩
 (.seq ⟨some 9, none, (.ofA (.load none (.tmp 8)))⟩
 (.seq ⟨some 10, none, (.ofA (.faddr 1 (.tmp 3)))⟩
 (.seq ⟨some 11, none, (.ofA (.load none (.tmp 10)))⟩
 (.seq ⟨some 12, none, (.ofA (.bin .neq (.tmp 9) (.tmp 11)))⟩
 .done))))))
 (.cond (.tmp 12)
 (.seq (.tree (.seq ⟨some 13, none, (.ofA (.faddr 1 (.tmp 2)))⟩
 (.seq ⟨some 14, none, (.ofA (.load none (.tmp 13)))⟩
 (.seq ⟨some 15, none, (.ofA (.faddr 1 (.tmp 3)))⟩
 (.seq ⟨some 16, none, (.ofA (.load none (.tmp 15)))⟩
 (.seq ⟨some 17, none, (.ofA (.bin .gtr (.tmp 14) (.tmp 16)))⟩
 (.seq ⟨some 4, none, (.ofA (.mv (.tmp 17)))⟩
 .done)))))))
 .ret)
 .skip))
 (.seq (.seq (.tree (.take ⟨some 18, none, (.ofA (.faddr 0 (.tmp 2)))⟩
 (.take ⟨some 19, none, (.ofA (.load none (.tmp 18)))⟩
 (.take ⟨some 21, none, (.ofA (.faddr 0 (.tmp 3)))⟩
 (.take ⟨some 22, none, (.ofA (.load none (.tmp 21)))⟩
 (.act true [(⟨some 20, none, (.call (.cst (.fn 95 [])) [(.tmp 19)])⟩,
 (.act true [(⟨some 23, none, (.call (.cst (.fn 95 [])) [(.tmp 22)])⟩,
 (.take ⟨some 5, none, (.ofA (.mv (.tmp 20)))⟩
 (.take ⟨some 6, none, (.ofA (.mv (.tmp 23)))⟩
 .done)))]))]))))))
 (.seq (.tree (.seq ⟨some 24, none, (.ofA (.mv (.tmp 5)))⟩
 (.seq ⟨some 25, none, (.ofA (.mv (.tmp 6)))⟩
 (.seq ⟨some 26, none, (.ofA (.bin .neq (.tmp 24) (.tmp 25)))⟩
 .done))))
 (.cond (.tmp 26)
 (.seq (.tree (.seq ⟨some 27, none, (.ofA (.mv (.tmp 5)))⟩
 (.seq ⟨some 28, none, (.ofA (.mv (.tmp 6)))⟩
 (.seq ⟨some 29, none, (.ofA (.bin .lss (.tmp 27) (.tmp 28)))⟩
 (.seq ⟨some 4, none, (.ofA (.mv (.tmp 29)))⟩
 .done)))))
 .ret)
 .skip)))
 (.seq (.tree (.seq ⟨some 30, none, (.ofA (.faddr 0 (.tmp 2)))⟩
 (.seq ⟨some 31, none, (.ofA (.load none (.tmp 30)))⟩
 (.seq ⟨some 32, none, (.ofA (.faddr 0 (.tmp 3)))⟩
 (.seq ⟨some 33, none, (.ofA (.load none (.tmp 32)))⟩
 (.seq ⟨some 34, none, (.ofA (.bin .xor (.tmp 31) (.tmp 33)))⟩
 (.seq ⟨some 7, none, (.ofA (.mv (.tmp 34)))⟩
 .done)))))))
 (.seq (.tree (.seq ⟨some 35, none, (.ofA (.faddr 0 (.tmp 2)))⟩
 (.seq ⟨some 36, none, (.ofA (.load none (.tmp 35)))⟩
 (.seq ⟨some 37, none, (.ofA (.mv (.tmp 7)))⟩
 (.seq ⟨some 38, none, (.ofA (.mv (.tmp 7)))⟩
 (.seq ⟨some 39, none, (.ofA (.un .neg (.tmp 38)))⟩
 (.seq ⟨some 40, none, (.ofA (.bin .and (.tmp 37) (.tmp 39)))⟩
 (.seq ⟨some 41, none, (.ofA (.bin .and (.tmp 36) (.tmp 40)))⟩
 (.seq ⟨some 42, none, (.ofA (.bin .neq (.tmp 41) (.cst (.v (.int .u64 0)))))⟩
 (.seq ⟨some 4, none, (.ofA (.mv (.tmp 42)))⟩
 .done))))))))))
 .ret)))))
def r63 : List XR := [.tmp 4]
theorem fn63 : FnX Try.prog 63 [82, 68, 97, 118] 43 x63 r63 := ⟨_, Try.func63, by kernel_rfl, by kernel_rfl, by kernel_rfl, by kernel_rfl⟩
-- almshouse/quota.Fullest (3 parameters)
def x32 : XC := (.seq (.tree (.seq ⟨some 6, none, (.ofA (.mv (.cst (.v (.slice none 0 0)))))⟩
 .done))
 (.seq (.seq (.tree (.seq ⟨some 15, none, (.ofA (.mv (.tmp 0)))⟩
 (.seq ⟨some 16, none, (.ofA (.len (.tmp 15)))⟩
 (.seq ⟨some 17, none, (.ofA (.bin .gtr (.tmp 16) (.cst (.v (.int .i64 12)))))⟩
 .done))))
 (.cond (.tmp 17)
 (.seq (.tree (.seq ⟨some 6, none, (.ofA (.mv (.cst (.v (.slice none 0 0)))))⟩
 .done))
 .ret)
 .skip))
 (.seq (.tree (.seq ⟨some 18, none, (.build [(.v (.int .u64 0)), (.v (.int .i64 0))] [])⟩
 (.seq ⟨some 7, none, (.alloc [(.v (.int .u64 0)), (.v (.int .i64 0))])⟩
 (.seq ⟨none, none, (.store 2 (.tmp 7) (.tmp 18))⟩
 .done))))
 (.seq (.seq (.tree (.seq ⟨some 8, none, (.ofA (.mv (.cst (.v (.int .u64 1)))))⟩
 .done))
 (.block 0 (.loop (.seq (.seq (.tree (.seq ⟨some 19, none, (.ofA (.mv (.tmp 8)))⟩
 (.seq ⟨some 20, none, (.ofA (.mv (.tmp 0)))⟩
 (.seq ⟨some 21, none, (.ofA (.len (.tmp 20)))⟩
 (.seq ⟨some 22, none, (.ofA (.conv .u64 (.tmp 21)))⟩
 (.seq ⟨some 23, none, (.ofA (.bin .shr (.tmp 19) (.tmp 22)))⟩
 (.seq ⟨some 24, none, (.ofA (.bin .eql (.tmp 23) (.cst (.v (.int .u64 0)))))⟩
 .done)))))))
 (.cond (.tmp 24)
 .skip
 (.exit 0)))
 (.seq (.block 1 (.seq (.tree (.seq ⟨some 27, none, (.ofA (.mv (.tmp 8)))⟩
 (.seq ⟨some 28, none, (.build [(.v (.int .u64 0)), (.v (.int .i64 0))] [(0, 1, (.tmp 27))])⟩
 (.seq ⟨some 9, none, (.alloc [(.v (.int .u64 0)), (.v (.int .i64 0))])⟩
 (.seq ⟨none, none, (.store 2 (.tmp 9) (.tmp 28))⟩
 .done)))))
 (.seq (.seq (.tree (.seq ⟨some 29, none, (.ofA (.mv (.tmp 0)))⟩
 (.seq ⟨some 30, none, (.ofA (.len (.tmp 29)))⟩
 (.seq ⟨some 31, none, (.ofA (.mv (.cst (.v (.int .i64 0)))))⟩
 .done))))
 (.block 2 (.loop (.seq (.tree (.seq ⟨some 32, none, (.ofA (.bin .lss (.tmp 31) (.tmp 30)))⟩
 .done))
 (.seq (.cond (.tmp 32)
 .skip
 (.exit 2))
 (.seq (.block 3 (.seq (.tree (.seq ⟨some 33, none, (.ofA (.mv (.tmp 31)))⟩
 (.seq ⟨some 34, none, (.ofA (.isl 2 (.tmp 29) (.tmp 31)))⟩
 (.seq ⟨some 35, none, (.ofA (.load (some 2) (.tmp 34)))⟩
 (.seq ⟨some 11, none, (.alloc [(.v (.int .i64 0)), (.v (.int .i64 0))])⟩
 (.seq ⟨some 10, none, (.ofA (.mv (.tmp 33)))⟩
 (.seq ⟨none, none, (.store 2 (.tmp 11) (.tmp 35))⟩
 .done)))))))
 (.seq (.seq (.tree (.seq ⟨some 36, none, (.ofA (.mv (.tmp 8)))⟩
 (.seq ⟨some 37, none, (.ofA (.mv (.tmp 10)))⟩
 (.seq ⟨some 38, none, (.ofA (.conv .u64 (.tmp 37)))⟩
 (.seq ⟨some 39, none, (.ofA (.bin .shr (.tmp 36) (.tmp 38)))⟩
 (.seq ⟨some 40, none, (.ofA (.bin .and (.tmp 39) (.cst (.v (.int .u64 1)))))⟩
 (.seq ⟨some 41, none, (.ofA (.bin .eql (.tmp 40) (.cst (.v (.int .u64 0)))))⟩
 .done)))))))
 (.cond (.tmp 41)
 (.exit 3)
 .skip))
 (.seq (.tree (.seq ⟨some 42, none, (.ofA (.load (some 2) (.tmp 11)))⟩
 (.seq ⟨some 43, none, (.ofA (.mv (.tmp 2)))⟩
 (.seq ⟨some 44, none, (.call (.cst (.fn 62 [])) [(.tmp 42), (.tmp 43)])⟩
 (.seq ⟨some 12, none, (.ofA (.mv (.tmp 44)))⟩
 .done)))))
 (.seq (.seq (.tree (.seq ⟨some 45, none, (.ofA (.mv (.tmp 12)))⟩
 (.seq ⟨some 46, none, (.ofA (.bin .eql (.tmp 45) (.cst (.v (.int .i64 0)))))⟩
 .done)))
 (.cond (.tmp 46)
 (.seq (.tree (.seq ⟨some 47, none, (.ofA (.faddr 1 (.tmp 9)))⟩
 (.seq ⟨none, none, (.store 1 (.tmp 47) (.cst (.v (.int .i64 65))))⟩
 .done)))
 (.exit 2))
 .skip))
 (.tree (.seq ⟨some 48, none, (.ofA (.faddr 1 (.tmp 9)))⟩
 (.seq ⟨some 49, none, (.ofA (.load none (.tmp 48)))⟩
 (.seq ⟨some 50, none, (.ofA (.mv (.tmp 12)))⟩
 (.seq ⟨some 51, none, (.ofA (.bin .add (.tmp 49) (.tmp 50)))⟩
 (.seq ⟨some 52, none, (.ofA (.faddr 1 (.tmp 9)))⟩
 (.seq ⟨none, none, (.store 1 (.tmp 52) (.tmp 51))⟩
 .done))))))))))))
 (.tree (.seq ⟨some 53, none, (.ofA (.bin .add (.tmp 31) (.cst (.v (.int .i64 1)))))⟩
 (.seq ⟨some 31, none, (.ofA (.mv (.tmp 53)))⟩
 .done)))))))))
 (.seq (.tree (.seq ⟨some 54, none, (.ofA (.faddr 1 (.tmp 9)))⟩
 (.seq ⟨some 55, none, (.ofA (.load none (.tmp 54)))⟩
 (.seq ⟨some 56, none, (.ofA (.mv (.tmp 1)))⟩
 (.seq ⟨some 57, none, (.ofA (.mx false (.tmp 56) [(.cst (.v (.int .i64 64)))]))⟩
 (.seq ⟨some 58, none, (.ofA (.bin .leq (.tmp 55) (.tmp 57)))⟩
 (.seq ⟨some 59, none, (.ofA (.mv (.tmp 58)))⟩
 (.seq ⟨some 60, some (59, true), (.ofA (.load (some 2) (.tmp 9)))⟩
 (.seq ⟨some 61, some (59, true), (.ofA (.load (some 2) (.tmp 7)))⟩
 (.seq ⟨some 62, some (59, true), (.call (.cst (.fn 63 [])) [(.tmp 60), (.tmp 61)])⟩
 (.seq ⟨some 63, none, (.ofA (.pick (.tmp 59) (.tmp 62) (.cst (.v (.bool false)))))⟩
 .done)))))))))))
 (.cond (.tmp 63)
 (.tree (.seq ⟨some 64, none, (.ofA (.load (some 2) (.tmp 9)))⟩
 (.seq ⟨none, none, (.store 2 (.tmp 7) (.tmp 64))⟩
 .done)))
 .skip)))))
 (.tree (.seq ⟨some 25, none, (.ofA (.mv (.tmp 8)))⟩
 (.seq ⟨some 26, none, (.ofA (.bin .add (.tmp 25) (.cst (.v (.int .u64 1)))))⟩
 (.seq ⟨some 8, none, (.ofA (.mv (.tmp 26)))⟩
 .done)))))))))
 (.seq (.tree (.seq ⟨some 13, none, (.ofA (.mv (.cst (.v (.slice none 0 0)))))⟩
 .done))
 (.seq (.seq (.tree (.seq ⟨some 65, none, (.ofA (.mv (.tmp 0)))⟩
 (.seq ⟨some 66, none, (.ofA (.len (.tmp 65)))⟩
 (.seq ⟨some 67, none, (.ofA (.mv (.cst (.v (.int .i64 0)))))⟩
 .done))))
 (.block 4 (.loop (.seq (.tree (.seq ⟨some 68, none, (.ofA (.bin .lss (.tmp 67) (.tmp 66)))⟩
 .done))
 (.seq (.cond (.tmp 68)
 .skip
 (.exit 4))
 (.seq (.block 5 (.seq (.tree (.seq ⟨some 69, none, (.ofA (.mv (.tmp 67)))⟩
 (.seq ⟨some 14, none, (.ofA (.mv (.tmp 69)))⟩
 .done)))
 (.seq (.tree (.seq ⟨some 70, none, (.ofA (.faddr 0 (.tmp 7)))⟩
 (.seq ⟨some 71, none, (.ofA (.load none (.tmp 70)))⟩
 (.seq ⟨some 72, none, (.ofA (.mv (.tmp 14)))⟩
 (.seq ⟨some 73, none, (.ofA (.conv .u64 (.tmp 72)))⟩
 (.seq ⟨some 74, none, (.ofA (.bin .shr (.tmp 71) (.tmp 73)))⟩
 (.seq ⟨some 75, none, (.ofA (.bin .and (.tmp 74) (.cst (.v (.int .u64 1)))))⟩
 (.seq ⟨some 76, none, (.ofA (.bin .eql (.tmp 75) (.cst (.v (.int .u64 1)))))⟩
 .done))))))))
 (.cond (.tmp 76)
 (.tree (.seq ⟨some 77, none, (.ofA (.mv (.tmp 13)))⟩
 (.seq ⟨some 78, none, (.ofA (.mv (.tmp 14)))⟩
 (.seq ⟨some 79, none, (.buildSl 1 1 [(.v (.int .i64 0))] [(0, 1, (.tmp 78))])⟩
 (.seq ⟨some 80, none, (.app 1 8 (.tmp 77) (.tmp 79))⟩
 (.seq ⟨some 13, none, (.ofA (.mv (.tmp 80)))⟩
 .done))))))
 .skip))))
 (.tree (.seq ⟨some 81, none, (.ofA (.bin .add (.tmp 67) (.cst (.v (.int .i64 1)))))⟩
 (.seq ⟨some 67, none, (.ofA (.mv (.tmp 81)))⟩
 .done)))))))))
 (.seq (.tree (.seq ⟨some 82, none, (.ofA (.mv (.tmp 13)))⟩
 (.seq ⟨some 6, none, (.ofA (.mv (.tmp 82)))⟩
 .done)))
 .ret)))))))
def r32 : List XR := [.tmp 6]
theorem fn32 : FnX Try.prog 32 [82, 68, 97, 118] 83 x32 r32 := ⟨_, Try.func32, by kernel_rfl, by kernel_rfl, by kernel_rfl, by kernel_rfl⟩
def andU (a b : Int) : Int := IntKind.u64.wrap ((BitVec.ofInt IntKind.u64.bits a &&& BitVec.ofInt IntKind.u64.bits b).toNat : Nat)
def andI (a b : Int) : Int := IntKind.i64.wrap ((BitVec.ofInt IntKind.i64.bits a &&& BitVec.ofInt IntKind.i64.bits b).toNat : Nat)
def xorU (a b : Int) : Int := IntKind.u64.wrap ((BitVec.ofInt IntKind.u64.bits a ^^^ BitVec.ofInt IntKind.u64.bits b).toNat : Nat)
def shU (a : Int) (k : Nat) : Int := a.fdiv (2 ^ min k IntKind.u64.bits)
def p1 (x : Int) : Int := IntKind.u64.wrap (andU (shU x 1) 6148914691236517205 + andU x 6148914691236517205)
def p2 (x : Int) : Int := IntKind.u64.wrap (andU (shU x 2) 3689348814741910323 + andU x 3689348814741910323)
def p3 (x : Int) : Int := andU (IntKind.u64.wrap (shU x 4 + x)) 1085102592571150095
def p4 (x : Int) : Int := IntKind.u64.wrap (x + shU x 8)
def p5 (x : Int) : Int := IntKind.u64.wrap (x + shU x 16)
def p6 (x : Int) : Int := IntKind.u64.wrap (x + shU x 32)
def popE (x : Int) : Int := andI (IntKind.i64.wrap (p6 (p5 (p4 (p3 (p2 (p1 x))))))) 127
theorem f_andU (a b : Int) : IntKind.u64.wrap ((BitVec.ofInt IntKind.u64.bits a &&& BitVec.ofInt IntKind.u64.bits b).toNat : Nat) = andU a b := rfl
theorem f_xorU (a b : Int) : IntKind.u64.wrap ((BitVec.ofInt IntKind.u64.bits a ^^^ BitVec.ofInt IntKind.u64.bits b).toNat : Nat) = xorU a b := rfl
theorem f_shU (a : Int) (k : Nat) : a.fdiv (2 ^ min k IntKind.u64.bits) = shU a k := rfl
theorem f_p1 (x : Int) : IntKind.u64.wrap (andU (shU x 1) 6148914691236517205 + andU x 6148914691236517205) = p1 x := rfl
theorem f_p2 (x : Int) : IntKind.u64.wrap (andU (shU x 2) 3689348814741910323 + andU x 3689348814741910323) = p2 x := rfl
theorem f_p3 (x : Int) : andU (IntKind.u64.wrap (shU x 4 + x)) 1085102592571150095 = p3 x := rfl
theorem f_p4 (x : Int) : IntKind.u64.wrap (x + shU x 8) = p4 x := rfl
theorem f_p5 (x : Int) : IntKind.u64.wrap (x + shU x 16) = p5 x := rfl
theorem f_p6 (x : Int) : IntKind.u64.wrap (x + shU x 32) = p6 x := rfl
def c117 [Inp] : Trans := fun args m k => match args with
  | [.v (.int .u64 x)] => k (.v (.int .i64 (popE x))) m
  | _ => False
def c95 [Inp] : Trans := fun args m k => match args with
  | [.v (.int .u64 x)] => k (.v (.int .i64 (popE x))) m
  | _ => False
theorem a117 [Inp] {x : Int} {m : Mem} {k : SV → Mem → Prop} : c117 [.v (.int .u64 x)] m k = k (.v (.int .i64 (popE x))) m := rfl
theorem a95 [Inp] {x : Int} {m : Mem} {k : SV → Mem → Prop} : c95 [.v (.int .u64 x)] m k = k (.v (.int .i64 (popE x))) m := rfl
theorem c117_ok [Inp] : Contract Try.prog 117 true c117 := by
  refine .plainArgs fn117 (g0 _) _ fun args m k h => ?_
  unfold c117 at h
  split at h
  · rename_i x
    refine ⟨rfl, by simp, ?_⟩
    simp (maxSteps := 2000000) -implicitDefEqProofs only [↓x117, ↓r117, f_andU, f_shU, f_p1, f_p2, f_p3, f_p4, f_p5, f_p6, s_alt, s_alt20, s_alt2t, s_alt2f, ↓s_loopi, ↓v_pq, ↓PRE, POST, CORE, Nat.reduceDiv, Nat.reduceMod, Int.reduceLT, Int.reduceLE, Int.reduceToNat, Int.reduceAdd, ↓reduceIte, Nat.reduceEqDiff, Nat.reduceAdd, Nat.reduceMul, Nat.reduceSub, Nat.reduceLeDiff, Nat.reduceLT, reduceCtorEq, if_true, eq_self, forall_const, implies_true]
    exact h
  · exact h.elim
theorem c95_ok [Inp] : Contract Try.prog 95 true c95 := by
  refine .plainArgs fn95 (G := [⟨117, true, c117⟩]) (GOk.cons c117_ok (g0 _)) _ fun args m k h => ?_
  unfold c95 at h
  split at h
  · rename_i x
    refine ⟨rfl, by simp, ?_⟩
    simp (maxSteps := 2000000) -implicitDefEqProofs only [↓x95, ↓r95, ↓a117, s_alt, s_alt20, s_alt2t, s_alt2f, ↓s_loopi, ↓v_pq, ↓PRE, POST, CORE, Nat.reduceDiv, Nat.reduceMod, Int.reduceLT, Int.reduceLE, Int.reduceToNat, Int.reduceAdd, ↓reduceIte, Nat.reduceEqDiff, Nat.reduceAdd, Nat.reduceMul, Nat.reduceSub, Nat.reduceLeDiff, Nat.reduceLT, reduceCtorEq, if_true, eq_self, forall_const, implies_true]
    exact h
  · exact h.elim
def betF (x c y d : Int) : Bool := if c ≠ d then decide (d < c) else if popE x ≠ popE y then decide (popE x < popE y) else andU x (andU (xorU x y) (IntKind.u64.wrap (0 - xorU x y))) != 0
def c63 [Inp] : Trans := fun args m k => match args with
  | [.agg [.v (.int .u64 x), .v (.int .i64 c)], .agg [.v (.int .u64 y), .v (.int .i64 d)]] => k (.v (.bool (betF x c y d))) m
  | _ => False
theorem a63 [Inp] {x c y d : Int} {m : Mem} {k : SV → Mem → Prop} : c63 [.agg [.v (.int .u64 x), .v (.int .i64 c)], .agg [.v (.int .u64 y), .v (.int .i64 d)]] m k = k (.v (.bool (betF x c y d))) m := rfl
theorem c63_ok [Inp] : Contract Try.prog 63 true c63 := by
  refine .plainArgs fn63 (G := [⟨95, true, c95⟩]) (GOk.cons c95_ok (g0 _)) _ fun args m k h => ?_
  unfold c63 at h
  split at h
  · rename_i x c y d
    refine ⟨rfl, by simp, ?_⟩
    unfold betF at h
    by_cases h1 : c = d
    · have e1 : (c != d) = false := by simp [h1]
      rw [if_neg (fun q => q h1)] at h
      by_cases h2 : popE x = popE y
      · have e2 : (popE x != popE y) = false := by simp [h2]
        rw [if_neg (fun q => q h2)] at h
        simp (maxSteps := 2000000) -implicitDefEqProofs only [↓x63, ↓r63, ↓a95, e1, e2, f_andU, f_xorU, s_alt, s_alt20, s_alt2t, s_alt2f, ↓s_loopi, ↓v_pq, ↓PRE, POST, CORE, Nat.reduceDiv, Nat.reduceMod, Int.reduceLT, Int.reduceLE, Int.reduceToNat, Int.reduceAdd, ↓reduceIte, Nat.reduceEqDiff, Nat.reduceAdd, Nat.reduceMul, Nat.reduceSub, Nat.reduceLeDiff, Nat.reduceLT, reduceCtorEq, if_true, eq_self, forall_const, implies_true]
        exact h
      · have e2 : (popE x != popE y) = true := by simpa using h2
        rw [if_pos h2] at h
        simp (maxSteps := 2000000) -implicitDefEqProofs only [↓x63, ↓r63, ↓a95, e1, e2, s_alt, s_alt20, s_alt2t, s_alt2f, ↓s_loopi, ↓v_pq, ↓PRE, POST, CORE, Nat.reduceDiv, Nat.reduceMod, Int.reduceLT, Int.reduceLE, Int.reduceToNat, Int.reduceAdd, ↓reduceIte, Nat.reduceEqDiff, Nat.reduceAdd, Nat.reduceMul, Nat.reduceSub, Nat.reduceLeDiff, Nat.reduceLT, reduceCtorEq, if_true, eq_self, forall_const, implies_true]
        by_cases h3 : popE x < popE y
        · simp (maxSteps := 2000000) -implicitDefEqProofs only [h3, s_alt, s_alt20, s_alt2t, s_alt2f, ↓s_loopi, ↓v_pq, ↓PRE, POST, CORE, Nat.reduceDiv, Nat.reduceMod, Int.reduceLT, Int.reduceLE, Int.reduceToNat, Int.reduceAdd, ↓reduceIte, Nat.reduceEqDiff, Nat.reduceAdd, Nat.reduceMul, Nat.reduceSub, Nat.reduceLeDiff, Nat.reduceLT, reduceCtorEq, if_true, eq_self, forall_const, implies_true]
          rw [decide_eq_true h3] at h
          exact h
        · simp (maxSteps := 2000000) -implicitDefEqProofs only [h3, s_alt, s_alt20, s_alt2t, s_alt2f, ↓s_loopi, ↓v_pq, ↓PRE, POST, CORE, Nat.reduceDiv, Nat.reduceMod, Int.reduceLT, Int.reduceLE, Int.reduceToNat, Int.reduceAdd, ↓reduceIte, Nat.reduceEqDiff, Nat.reduceAdd, Nat.reduceMul, Nat.reduceSub, Nat.reduceLeDiff, Nat.reduceLT, reduceCtorEq, if_true, eq_self, forall_const, implies_true]
          rw [decide_eq_false h3] at h
          exact h
    · have e1 : (c != d) = true := by simpa using h1
      rw [if_pos h1] at h
      simp (maxSteps := 2000000) -implicitDefEqProofs only [↓x63, ↓r63, ↓a95, e1, gt_iff_lt, s_alt, s_alt20, s_alt2t, s_alt2f, ↓s_loopi, ↓v_pq, ↓PRE, POST, CORE, Nat.reduceDiv, Nat.reduceMod, Int.reduceLT, Int.reduceLE, Int.reduceToNat, Int.reduceAdd, ↓reduceIte, Nat.reduceEqDiff, Nat.reduceAdd, Nat.reduceMul, Nat.reduceSub, Nat.reduceLeDiff, Nat.reduceLT, reduceCtorEq, if_true, eq_self, forall_const, implies_true]
      by_cases h3 : d < c
      · simp (maxSteps := 2000000) -implicitDefEqProofs only [h3, s_alt, s_alt20, s_alt2t, s_alt2f, ↓s_loopi, ↓v_pq, ↓PRE, POST, CORE, Nat.reduceDiv, Nat.reduceMod, Int.reduceLT, Int.reduceLE, Int.reduceToNat, Int.reduceAdd, ↓reduceIte, Nat.reduceEqDiff, Nat.reduceAdd, Nat.reduceMul, Nat.reduceSub, Nat.reduceLeDiff, Nat.reduceLT, reduceCtorEq, if_true, eq_self, forall_const, implies_true]
        rw [decide_eq_true h3] at h
        exact h
      · simp (maxSteps := 2000000) -implicitDefEqProofs only [h3, s_alt, s_alt20, s_alt2t, s_alt2f, ↓s_loopi, ↓v_pq, ↓PRE, POST, CORE, Nat.reduceDiv, Nat.reduceMod, Int.reduceLT, Int.reduceLE, Int.reduceToNat, Int.reduceAdd, ↓reduceIte, Nat.reduceEqDiff, Nat.reduceAdd, Nat.reduceMul, Nat.reduceSub, Nat.reduceLeDiff, Nat.reduceLT, reduceCtorEq, if_true, eq_self, forall_const, implies_true]
        rw [decide_eq_false h3] at h
        exact h
  · exact h.elim
def cN (l : List Ra.Rg) (n : Int) (i : Nat) : Int := match l[i]? with | some r => totF r.fr r.to n | none => 0
theorem cN_at {l : List Ra.Rg} {n : Int} {i : Nat} {r : Ra.Rg} (h : l[i]? = some r) : cN l n i = totF r.fr r.to n := by unfold cN; rw [h]
theorem cN_bd (l : List Ra.Rg) (n : Int) (i : Nat) : 0 ≤ cN l n i ∧ cN l n i ≤ 74 := by
  unfold cN
  split
  · exact totF_bd _ _ _
  · omega
def sumB (c : Nat → Int) (m : Nat) : Nat → Int
  | 0 => 0
  | i + 1 => if m.testBit i = true then sumB c m i + c i else sumB c m i
def badB (c : Nat → Int) (m : Nat) : Nat → Bool
  | 0 => false
  | i + 1 => badB c m i || (m.testBit i && c i == 0)
theorem sumB_bd {c : Nat → Int} (h : ∀ i, 0 ≤ c i ∧ c i ≤ 74) (m : Nat) : ∀ i, 0 ≤ sumB c m i ∧ sumB c m i ≤ 74 * i
  | 0 => by simp [sumB]
  | i + 1 => by
    have h1 := sumB_bd h m i
    have h2 := h i
    unfold sumB
    split <;> omega
theorem badB_mono {c : Nat → Int} {m : Nat} : ∀ {n i : Nat}, i ≤ n → badB c m i = true → badB c m n = true
  | 0, i, h, hb => by
    obtain rfl : i = 0 := by omega
    exact hb
  | n + 1, i, h, hb => by
    rcases Nat.lt_or_ge n i with h1 | h1
    · obtain rfl : i = n + 1 := by omega
      exact hb
    · rw [badB, badB_mono h1 hb, Bool.true_or]
def costM (c : Nat → Int) (n m : Nat) : Int := if badB c m n = true then 65 else sumB c m n
def bestM (c : Nat → Int) (n : Nat) (R : Int) : Nat → Nat × Int
  | 0 => (0, 0)
  | x + 1 => if costM c n (x + 1) ≤ R ∧ betF ((x + 1 : Nat) : Int) (costM c n (x + 1)) ((bestM c n R x).1 : Int) (bestM c n R x).2 = true then (x + 1, costM c n (x + 1)) else bestM c n R x
def bitsL (m : Nat) (n : Nat) : List Int := ((List.range n).filter fun i => m.testBit i).map Int.ofNat
theorem bitsL_succ (m n : Nat) : bitsL m (n + 1) = if m.testBit n = true then bitsL m n ++ [(n : Int)] else bitsL m n := by
  unfold bitsL
  rw [List.range_succ, List.filter_append, List.map_append]
  cases h : m.testBit n <;> simp [h]
theorem bitsL_len (m n : Nat) : (bitsL m n).length ≤ n := by
  unfold bitsL
  rw [List.length_map]
  have := List.length_filter_le (fun i => m.testBit i) (List.range n)
  simpa using this
theorem bestM_le (c : Nat → Int) (n : Nat) (R : Int) : ∀ x, (bestM c n R x).1 ≤ x
  | 0 => Nat.le_refl _
  | x + 1 => by
    unfold bestM
    split
    · exact Nat.le_refl _
    · exact Nat.le_succ_of_le (bestM_le c n R x)
def fullF (l : List Ra.Rg) (b n : Int) : List Int := if 12 < l.length then [] else bitsL (bestM (cN l n) l.length (room b) (2 ^ l.length - 1)).1 l.length
theorem uw {x : Int} (h0 : 0 ≤ x) (h1 : x ≤ 18446744073709551615) : IntKind.u64.wrap x = x := by simp [IntKind.wrap, IntKind.bits, IntKind.signed]; omega
theorem shU_nat (m k : Nat) (hk : k ≤ 64) : shU (m : Int) k = ((m / 2 ^ k : Nat) : Int) := by
  unfold shU
  have : min k IntKind.u64.bits = k := by simp [IntKind.bits]; omega
  rw [this, Int.fdiv_eq_ediv_of_nonneg _ (by exact_mod_cast Nat.zero_le _)]
  push_cast
  rfl
theorem andU_one (a : Nat) (h : a < 18446744073709551616) : andU (a : Int) 1 = ((a % 2 : Nat) : Int) := by
  unfold andU
  have e : (BitVec.ofInt IntKind.u64.bits (a : Int) &&& BitVec.ofInt IntKind.u64.bits 1).toNat = a % 2 := by
    show (BitVec.ofInt 64 (a : Int) &&& BitVec.ofInt 64 1).toNat = a % 2
    rw [BitVec.toNat_and]
    have h1 : (BitVec.ofInt 64 (a : Int)).toNat = a := by
      rw [BitVec.ofInt_natCast, BitVec.toNat_ofNat]; omega
    have h2 : (BitVec.ofInt 64 1).toNat = 1 := rfl
    rw [h1, h2, Nat.and_one_is_mod]
  rw [e]
  exact uw (by omega) (by omega)
theorem bit0 {m i : Nat} (hi : i ≤ 64) (hm : m < 18446744073709551616) (h : m.testBit i = false) : andU (shU (m : Int) i) 1 = 0 := by
  rw [shU_nat m i hi, andU_one _ (Nat.lt_of_le_of_lt (Nat.div_le_self _ _) hm)]
  rw [Nat.testBit_eq_decide_div_mod_eq, decide_eq_false_iff_not] at h
  omega
theorem bit1 {m i : Nat} (hi : i ≤ 64) (hm : m < 18446744073709551616) (h : m.testBit i = true) : andU (shU (m : Int) i) 1 = 1 := by
  rw [shU_nat m i hi, andU_one _ (Nat.lt_of_le_of_lt (Nat.div_le_self _ _) hm)]
  rw [Nat.testBit_eq_decide_div_mod_eq, decide_eq_true_eq] at h
  omega
def c32 [Inp] : Trans := fun args m k => ∃ (s : SV) (l : List Ra.Rg) (b n : Int), args = [s, .v (.int .i64 b), .v (.int .i64 n)] ∧ rdG m s = some l ∧ l.length ≤ 1000 ∧ k (rS m.length 1 (fullF l b n).length) (m ++ rM (iL (fullF l b n)))
def G32 [Inp] : List CEntry := [⟨62, true, c62⟩, ⟨63, true, c63⟩]
theorem s32 [Inp] : GOk Try.prog G32 := GOk.cons c62_ok (GOk.cons c63_ok (g0 _))
theorem c32_ok [I : Inp] : Contract Try.prog 32 true c32 := by
  refine .readF3 fn32 (G := fun J => @G32 J) (fun J => @s32 J) _ fun args m k h => ?_
  obtain ⟨s, l, b, n, rfl, hl, hmax, hk⟩ := h
  refine ⟨by simp, fun J hJ us hus => ?_⟩
  obtain ⟨u, t1, rfl, hu1, u2, t2, rfl, hu2, u3, t3, rfl, hu3, rfl⟩ := hus
  obtain rfl := hu2.1 _ rfl
  obtain rfl := hu3.1 _ rfl
  obtain ⟨p, cc, rfl, hin⟩ := rdG_knows hl hu1
  rw [List.map_cons, List.map_cons, List.map_cons, List.map_nil, of_sl, of_int, of_int]
  unfold fullF at hk
  by_cases h12 : (12 : Int) < (l.length : Int)
  · rw [if_pos (by omega)] at hk
    simp (maxSteps := 2000000) -implicitDefEqProofs only [↓x32, ↓r32, gt_iff_lt, h12, s_alt, s_alt20, s_alt2t, s_alt2f, ↓s_loopi, ↓v_pq, ↓PRE, POST, CORE, Nat.reduceDiv, Nat.reduceMod, Int.reduceLT, Int.reduceLE, Int.reduceToNat, Int.reduceAdd, ↓reduceIte, Nat.reduceEqDiff, Nat.reduceAdd, Nat.reduceMul, Nat.reduceSub, Nat.reduceLeDiff, Nat.reduceLT, reduceCtorEq, if_true, eq_self, forall_const, implies_true]
    refine ⟨[], .v (.slice none 0 0), [], by simp [NdL], trivial, by simp, by simp only [Le], ?_⟩
    rw [List.length_nil, rS_0, iL_nil, rM_0, List.append_nil] at hk
    simpa [SV.up] using hk
  rw [if_neg (by omega)] at hk
  obtain ⟨N, hN⟩ : ∃ N, N = 2 ^ l.length := ⟨_, rfl⟩
  have hN1 : 1 ≤ N := by rw [hN]; exact Nat.one_le_two_pow
  have hN2 : N ≤ 4096 := by rw [hN]; exact Nat.pow_le_pow_right (by omega) (show l.length ≤ 12 by omega)
  rw [← hN] at hk
  simp (maxSteps := 2000000) -implicitDefEqProofs only [↓x32, ↓r32, gt_iff_lt, h12, s_alt, s_alt20, s_alt2t, s_alt2f, ↓s_loopi, ↓v_pq, ↓PRE, POST, CORE, Nat.reduceDiv, Nat.reduceMod, Int.reduceLT, Int.reduceLE, Int.reduceToNat, Int.reduceAdd, ↓reduceIte, Nat.reduceEqDiff, Nat.reduceAdd, Nat.reduceMul, Nat.reduceSub, Nat.reduceLeDiff, Nat.reduceLT, reduceCtorEq, if_true, eq_self, forall_const, implies_true]
  refine TXi_of (TX_count (@s32 J) (N - 1) (fun x => [(0, .v (.slice p l.length cc)), (1, .v (.int .i64 b)), (2, .v (.int .i64 n)), (7, .ptr 0 0), (8, .v (.int .u64 ((x + 1 : Nat) : Int)))]) (fun x => [⟨true, [.v (.int .u64 ((bestM (cN l n) l.length (room b) x).1 : Int)), .v (.int .i64 (bestM (cN l n) l.length (room b) x).2)]⟩]) (fun x => True) trivial ?_ ?_ ?_)
  · exact (by refine ⟨[0], by simp [NdL, NdA, oO_cells, oO_own, iL_nil], ?_, ?_, keep0 hJ⟩ <;> simp only [FitM, FitE, ObLe, LeL, Le, List.cons_append, List.nil_append] <;> (try (simp (maxSteps := 2000000) -implicitDefEqProofs only [bestM, s_alt, s_alt20, s_alt2t, s_alt2f, ↓s_loopi, ↓v_pq, ↓PRE, POST, CORE, Nat.reduceDiv, Nat.reduceMod, Int.reduceLT, Int.reduceLE, Int.reduceToNat, Int.reduceAdd, ↓reduceIte, Nat.reduceEqDiff, Nat.reduceAdd, Nat.reduceMul, Nat.reduceSub, Nat.reduceLeDiff, Nat.reduceLT, reduceCtorEq, if_true, eq_self, forall_const, implies_true])) <;> (try simp only [Sz.Le, Sz.LeL, List.getElem?_cons_zero, List.getElem?_cons_succ]) <;> (try simp))
  · intro x hx _
    obtain ⟨M, hM⟩ : ∃ M, M = x + 1 := ⟨_, rfl⟩
    rw [← hM]
    have hble := bestM_le (cN l n) l.length (room b) x
    have hbs : bestM (cN l n) l.length (room b) M = if costM (cN l n) l.length M ≤ room b ∧ betF (M : Int) (costM (cN l n) l.length M) ((bestM (cN l n) l.length (room b) x).1 : Int) (bestM (cN l n) l.length (room b) x).2 = true then (M, costM (cN l n) l.length M) else bestM (cN l n) l.length (room b) x := by rw [hM, bestM]
    rw [hbs]
    generalize bestM (cN l n) l.length (room b) x = st at hble ⊢
    obtain ⟨bm, bc⟩ := st
    simp only at hble ⊢
    have hMN : M < N := by omega
    have u0 : (0 : Int) ≤ (l.length : Int) := by omega
    have uwl : IntKind.u64.wrap (l.length : Int) = (l.length : Int) := uw (by omega) (by omega)
    have hsh : shU (M : Int) l.length = 0 := by
      rw [shU_nat _ _ (by omega), Nat.div_eq_of_lt (by rw [← hN]; exact hMN)]
      rfl
    have hroom : (if (64 : Int) < b then (64 : Int) else b) = room b := rfl
    have hr64 : room b ≤ 64 := by unfold room; split <;> omega
    have uwM : IntKind.u64.wrap ((M : Int) + 1) = ((M + 1 : Nat) : Int) := by
      rw [uw (by omega) (by omega)]
      push_cast
      rfl
    simp (maxSteps := 2000000) -implicitDefEqProofs only [uwl, u0, f_shU, Int.toNat_natCast, hsh, beq_self_eq_true, s_alt, s_alt20, s_alt2t, s_alt2f, ↓s_loopi, ↓v_pq, ↓PRE, POST, CORE, Nat.reduceDiv, Nat.reduceMod, Int.reduceLT, Int.reduceLE, Int.reduceToNat, Int.reduceAdd, ↓reduceIte, Nat.reduceEqDiff, Nat.reduceAdd, Nat.reduceMul, Nat.reduceSub, Nat.reduceLeDiff, Nat.reduceLT, reduceCtorEq, if_true, eq_self, forall_const, implies_true]
    refine TXi_of (TX_count (@s32 J) l.length (fun i => [(0, .v (.slice p l.length cc)), (1, .v (.int .i64 b)), (2, .v (.int .i64 n)), (7, .ptr 0 0), (8, .v (.int .u64 (M : Int))), (9, .ptr 1 0), (29, .v (.slice p l.length cc)), (30, .v (.int .i64 (l.length : Int))), (31, .v (.int .i64 (i : Int)))]) (fun i => [⟨true, [.v (.int .u64 (bm : Int)), .v (.int .i64 bc)]⟩, ⟨true, [.v (.int .u64 (M : Int)), .v (.int .i64 (sumB (cN l n) M i))]⟩]) (fun i => badB (cN l n) M i = false) rfl ?_ ?_ ?_)
    · exact (by refine ⟨[0, 1], by simp [NdL, NdA, oO_cells, oO_own, iL_nil], ?_, ?_, keep0 hJ⟩ <;> simp only [FitM, FitE, ObLe, LeL, Le, List.cons_append, List.nil_append] <;> (try (simp (maxSteps := 2000000) -implicitDefEqProofs only [sumB, s_alt, s_alt20, s_alt2t, s_alt2f, ↓s_loopi, ↓v_pq, ↓PRE, POST, CORE, Nat.reduceDiv, Nat.reduceMod, Int.reduceLT, Int.reduceLE, Int.reduceToNat, Int.reduceAdd, ↓reduceIte, Nat.reduceEqDiff, Nat.reduceAdd, Nat.reduceMul, Nat.reduceSub, Nat.reduceLeDiff, Nat.reduceLT, reduceCtorEq, if_true, eq_self, forall_const, implies_true])) <;> (try simp only [Sz.Le, Sz.LeL, List.getElem?_cons_zero, List.getElem?_cons_succ]) <;> (try simp))
    · intro i hi hbad
      obtain ⟨r, hrr⟩ : ∃ r, l[i]? = some r := ⟨_, List.getElem?_eq_getElem hi⟩
      have hp : p.isSome = true := inpL_isSome hin (by omega)
      have f : inpL (plusA p (i * 2)) 2 = some [.int .i64 r.fr, .int .i64 r.to] := inp_item gV_len hin rfl hrr
      have i0 : (0 : Int) ≤ (i : Int) := by omega
      have i1 : (i : Int) < (l.length : Int) := by omega
      have w1 : IntKind.i64.wrap ((i : Int) + 1) = (i : Int) + 1 := Sz.w_64 (by omega) (by omega)
      have uwi : IntKind.u64.wrap (i : Int) = (i : Int) := uw (by omega) (by omega)
      have hsb := sumB_bd (cN_bd l n) M i
      have hci : cN l n i = totF r.fr r.to n := cN_at hrr
      have o10 : ((1 : Int) == 0) = false := rfl
      have hc0 : 0 ≤ totF r.fr r.to n ∧ totF r.fr r.to n ≤ 74 := totF_bd _ _ _
      cases hbit : M.testBit i with
      | false =>
        have hb0 := bit0 (m := M) (i := i) (by omega) (by omega) hbit
        have hsn : sumB (cN l n) M (i + 1) = sumB (cN l n) M i := by rw [sumB, hbit]; rfl
        have hbn : badB (cN l n) M (i + 1) = false := by rw [badB, hbad, hbit]; rfl
        rw [hsn]
        simp (maxSteps := 2000000) -implicitDefEqProofs only [i0, i1, hp, f, uwi, f_shU, Int.toNat_natCast, f_andU, hb0, beq_self_eq_true, w1, s_alt, s_alt20, s_alt2t, s_alt2f, ↓s_loopi, ↓v_pq, ↓PRE, POST, CORE, Nat.reduceDiv, Nat.reduceMod, Int.reduceLT, Int.reduceLE, Int.reduceToNat, Int.reduceAdd, ↓reduceIte, Nat.reduceEqDiff, Nat.reduceAdd, Nat.reduceMul, Nat.reduceSub, Nat.reduceLeDiff, Nat.reduceLT, reduceCtorEq, if_true, eq_self, forall_const, implies_true]
        exact ⟨hbn, (by refine ⟨[0, 1], by simp [NdL, NdA, oO_cells, oO_own, iL_nil], ?_, ?_, keep0 hJ⟩ <;> simp only [FitM, FitE, ObLe, LeL, Le, List.cons_append, List.nil_append] <;> (try (simp (maxSteps := 2000000) -implicitDefEqProofs only [s_alt, s_alt20, s_alt2t, s_alt2f, ↓s_loopi, ↓v_pq, ↓PRE, POST, CORE, Nat.reduceDiv, Nat.reduceMod, Int.reduceLT, Int.reduceLE, Int.reduceToNat, Int.reduceAdd, ↓reduceIte, Nat.reduceEqDiff, Nat.reduceAdd, Nat.reduceMul, Nat.reduceSub, Nat.reduceLeDiff, Nat.reduceLT, reduceCtorEq, if_true, eq_self, forall_const, implies_true])) <;> (try simp only [Sz.Le, Sz.LeL, List.getElem?_cons_zero, List.getElem?_cons_succ]) <;> (try simp))⟩
      | true =>
        have hb0 := bit1 (m := M) (i := i) (by omega) (by omega) hbit
        have hsn : sumB (cN l n) M (i + 1) = sumB (cN l n) M i + totF r.fr r.to n := by rw [sumB, hbit, hci]; rfl
        have hbn : badB (cN l n) M (i + 1) = (totF r.fr r.to n == 0) := by rw [badB, hbad, hbit, hci]; rfl
        by_cases hz : totF r.fr r.to n = 0
        · have hzb : (totF r.fr r.to n == 0) = true := by simpa using hz
          simp (maxSteps := 2000000) -implicitDefEqProofs only [i0, i1, hp, f, uwi, f_shU, Int.toNat_natCast, f_andU, hb0, o10, ↓G32, ↓a62, ↓a63, hzb, s_alt, s_alt20, s_alt2t, s_alt2f, ↓s_loopi, ↓v_pq, ↓PRE, POST, CORE, Nat.reduceDiv, Nat.reduceMod, Int.reduceLT, Int.reduceLE, Int.reduceToNat, Int.reduceAdd, ↓reduceIte, Nat.reduceEqDiff, Nat.reduceAdd, Nat.reduceMul, Nat.reduceSub, Nat.reduceLeDiff, Nat.reduceLT, reduceCtorEq, if_true, eq_self, forall_const, implies_true]
          have hcost : costM (cN l n) l.length M = 65 := if_pos (badB_mono (show i + 1 ≤ l.length by omega) (by rw [hbn, hzb]))
          have h65 : ¬ (65 : Int) ≤ room b := by omega
          have hif : (if (65 : Int) ≤ room b ∧ betF (M : Int) 65 (bm : Int) bc = true then (M, (65 : Int)) else (bm, bc)) = (bm, bc) := if_neg (fun q => h65 q.1)
          rw [hcost, hif]
          simp (maxSteps := 2000000) -implicitDefEqProofs only [hroom, h65, uwM, s_alt, s_alt20, s_alt2t, s_alt2f, ↓s_loopi, ↓v_pq, ↓PRE, POST, CORE, Nat.reduceDiv, Nat.reduceMod, Int.reduceLT, Int.reduceLE, Int.reduceToNat, Int.reduceAdd, ↓reduceIte, Nat.reduceEqDiff, Nat.reduceAdd, Nat.reduceMul, Nat.reduceSub, Nat.reduceLeDiff, Nat.reduceLT, reduceCtorEq, if_true, eq_self, forall_const, implies_true]
          exact (by refine ⟨[0], by simp [NdL, NdA, oO_cells, oO_own, iL_nil], ?_, ?_, keep0 hJ⟩ <;> simp only [FitM, FitE, ObLe, LeL, Le, List.cons_append, List.nil_append] <;> (try (simp (maxSteps := 2000000) -implicitDefEqProofs only [s_alt, s_alt20, s_alt2t, s_alt2f, ↓s_loopi, ↓v_pq, ↓PRE, POST, CORE, Nat.reduceDiv, Nat.reduceMod, Int.reduceLT, Int.reduceLE, Int.reduceToNat, Int.reduceAdd, ↓reduceIte, Nat.reduceEqDiff, Nat.reduceAdd, Nat.reduceMul, Nat.reduceSub, Nat.reduceLeDiff, Nat.reduceLT, reduceCtorEq, if_true, eq_self, forall_const, implies_true])) <;> (try simp only [Sz.Le, Sz.LeL, List.getElem?_cons_zero, List.getElem?_cons_succ]) <;> (try simp))
        · have hzb : (totF r.fr r.to n == 0) = false := by simpa using hz
          have w2 : IntKind.i64.wrap (sumB (cN l n) M i + totF r.fr r.to n) = sumB (cN l n) M i + totF r.fr r.to n := Sz.w_64 (by omega) (by omega)
          rw [hsn]
          simp (maxSteps := 2000000) -implicitDefEqProofs only [i0, i1, hp, f, uwi, f_shU, Int.toNat_natCast, f_andU, hb0, o10, ↓G32, ↓a62, ↓a63, hzb, w1, w2, s_alt, s_alt20, s_alt2t, s_alt2f, ↓s_loopi, ↓v_pq, ↓PRE, POST, CORE, Nat.reduceDiv, Nat.reduceMod, Int.reduceLT, Int.reduceLE, Int.reduceToNat, Int.reduceAdd, ↓reduceIte, Nat.reduceEqDiff, Nat.reduceAdd, Nat.reduceMul, Nat.reduceSub, Nat.reduceLeDiff, Nat.reduceLT, reduceCtorEq, if_true, eq_self, forall_const, implies_true]
          exact ⟨by rw [hbn, hzb], (by refine ⟨[0, 1], by simp [NdL, NdA, oO_cells, oO_own, iL_nil], ?_, ?_, keep0 hJ⟩ <;> simp only [FitM, FitE, ObLe, LeL, Le, List.cons_append, List.nil_append] <;> (try (simp (maxSteps := 2000000) -implicitDefEqProofs only [s_alt, s_alt20, s_alt2t, s_alt2f, ↓s_loopi, ↓v_pq, ↓PRE, POST, CORE, Nat.reduceDiv, Nat.reduceMod, Int.reduceLT, Int.reduceLE, Int.reduceToNat, Int.reduceAdd, ↓reduceIte, Nat.reduceEqDiff, Nat.reduceAdd, Nat.reduceMul, Nat.reduceSub, Nat.reduceLeDiff, Nat.reduceLT, reduceCtorEq, if_true, eq_self, forall_const, implies_true])) <;> (try simp only [Sz.Le, Sz.LeL, List.getElem?_cons_zero, List.getElem?_cons_succ]) <;> (try simp))⟩
    · intro hbad
      have i1 : ¬ (l.length : Int) < (l.length : Int) := by omega
      simp (maxSteps := 2000000) -implicitDefEqProofs only [i1, ↓G32, ↓a63, s_alt, s_alt20, s_alt2t, s_alt2f, ↓s_loopi, ↓v_pq, ↓PRE, POST, CORE, Nat.reduceDiv, Nat.reduceMod, Int.reduceLT, Int.reduceLE, Int.reduceToNat, Int.reduceAdd, ↓reduceIte, Nat.reduceEqDiff, Nat.reduceAdd, Nat.reduceMul, Nat.reduceSub, Nat.reduceLeDiff, Nat.reduceLT, reduceCtorEq, if_true, eq_self, forall_const, implies_true]
      have hcost : costM (cN l n) l.length M = sumB (cN l n) M l.length := if_neg (by rw [hbad]; simp)
      rw [hcost]
      generalize sumB (cN l n) M l.length = S
      by_cases h1 : S ≤ room b
      · by_cases h2 : betF (M : Int) S (bm : Int) bc = true
        · have hif : (if S ≤ room b ∧ betF (M : Int) S (bm : Int) bc = true then (M, S) else (bm, bc)) = (M, S) := if_pos ⟨h1, h2⟩
          rw [hif]
          simp (maxSteps := 2000000) -implicitDefEqProofs only [hroom, h1, h2, uwM, s_alt, s_alt20, s_alt2t, s_alt2f, ↓s_loopi, ↓v_pq, ↓PRE, POST, CORE, Nat.reduceDiv, Nat.reduceMod, Int.reduceLT, Int.reduceLE, Int.reduceToNat, Int.reduceAdd, ↓reduceIte, Nat.reduceEqDiff, Nat.reduceAdd, Nat.reduceMul, Nat.reduceSub, Nat.reduceLeDiff, Nat.reduceLT, reduceCtorEq, if_true, eq_self, forall_const, implies_true]
          exact (by refine ⟨[0], by simp [NdL, NdA, oO_cells, oO_own, iL_nil], ?_, ?_, keep0 hJ⟩ <;> simp only [FitM, FitE, ObLe, LeL, Le, List.cons_append, List.nil_append] <;> (try (simp (maxSteps := 2000000) -implicitDefEqProofs only [s_alt, s_alt20, s_alt2t, s_alt2f, ↓s_loopi, ↓v_pq, ↓PRE, POST, CORE, Nat.reduceDiv, Nat.reduceMod, Int.reduceLT, Int.reduceLE, Int.reduceToNat, Int.reduceAdd, ↓reduceIte, Nat.reduceEqDiff, Nat.reduceAdd, Nat.reduceMul, Nat.reduceSub, Nat.reduceLeDiff, Nat.reduceLT, reduceCtorEq, if_true, eq_self, forall_const, implies_true])) <;> (try simp only [Sz.Le, Sz.LeL, List.getElem?_cons_zero, List.getElem?_cons_succ]) <;> (try simp))
        · have hif : (if S ≤ room b ∧ betF (M : Int) S (bm : Int) bc = true then (M, S) else (bm, bc)) = (bm, bc) := if_neg (fun q => h2 q.2)
          rw [hif]
          simp (maxSteps := 2000000) -implicitDefEqProofs only [hroom, h1, h2, uwM, s_alt, s_alt20, s_alt2t, s_alt2f, ↓s_loopi, ↓v_pq, ↓PRE, POST, CORE, Nat.reduceDiv, Nat.reduceMod, Int.reduceLT, Int.reduceLE, Int.reduceToNat, Int.reduceAdd, ↓reduceIte, Nat.reduceEqDiff, Nat.reduceAdd, Nat.reduceMul, Nat.reduceSub, Nat.reduceLeDiff, Nat.reduceLT, reduceCtorEq, if_true, eq_self, forall_const, implies_true]
          exact (by refine ⟨[0], by simp [NdL, NdA, oO_cells, oO_own, iL_nil], ?_, ?_, keep0 hJ⟩ <;> simp only [FitM, FitE, ObLe, LeL, Le, List.cons_append, List.nil_append] <;> (try (simp (maxSteps := 2000000) -implicitDefEqProofs only [s_alt, s_alt20, s_alt2t, s_alt2f, ↓s_loopi, ↓v_pq, ↓PRE, POST, CORE, Nat.reduceDiv, Nat.reduceMod, Int.reduceLT, Int.reduceLE, Int.reduceToNat, Int.reduceAdd, ↓reduceIte, Nat.reduceEqDiff, Nat.reduceAdd, Nat.reduceMul, Nat.reduceSub, Nat.reduceLeDiff, Nat.reduceLT, reduceCtorEq, if_true, eq_self, forall_const, implies_true])) <;> (try simp only [Sz.Le, Sz.LeL, List.getElem?_cons_zero, List.getElem?_cons_succ]) <;> (try simp))
      · have hif : (if S ≤ room b ∧ betF (M : Int) S (bm : Int) bc = true then (M, S) else (bm, bc)) = (bm, bc) := if_neg (fun q => h1 q.1)
        rw [hif]
        simp (maxSteps := 2000000) -implicitDefEqProofs only [hroom, h1, uwM, s_alt, s_alt20, s_alt2t, s_alt2f, ↓s_loopi, ↓v_pq, ↓PRE, POST, CORE, Nat.reduceDiv, Nat.reduceMod, Int.reduceLT, Int.reduceLE, Int.reduceToNat, Int.reduceAdd, ↓reduceIte, Nat.reduceEqDiff, Nat.reduceAdd, Nat.reduceMul, Nat.reduceSub, Nat.reduceLeDiff, Nat.reduceLT, reduceCtorEq, if_true, eq_self, forall_const, implies_true]
        exact (by refine ⟨[0], by simp [NdL, NdA, oO_cells, oO_own, iL_nil], ?_, ?_, keep0 hJ⟩ <;> simp only [FitM, FitE, ObLe, LeL, Le, List.cons_append, List.nil_append] <;> (try (simp (maxSteps := 2000000) -implicitDefEqProofs only [s_alt, s_alt20, s_alt2t, s_alt2f, ↓s_loopi, ↓v_pq, ↓PRE, POST, CORE, Nat.reduceDiv, Nat.reduceMod, Int.reduceLT, Int.reduceLE, Int.reduceToNat, Int.reduceAdd, ↓reduceIte, Nat.reduceEqDiff, Nat.reduceAdd, Nat.reduceMul, Nat.reduceSub, Nat.reduceLeDiff, Nat.reduceLT, reduceCtorEq, if_true, eq_self, forall_const, implies_true])) <;> (try simp only [Sz.Le, Sz.LeL, List.getElem?_cons_zero, List.getElem?_cons_succ]) <;> (try simp))
  · intro _
    have hNN : N - 1 + 1 = N := by omega
    rw [hNN]
    have u0 : (0 : Int) ≤ (l.length : Int) := by omega
    have uwl : IntKind.u64.wrap (l.length : Int) = (l.length : Int) := uw (by omega) (by omega)
    have hsh : shU (N : Int) l.length = 1 := by
      rw [shU_nat _ _ (by omega), hN, Nat.div_self (Nat.two_pow_pos _)]
      rfl
    have o10 : ((1 : Int) == 0) = false := rfl
    have hble := bestM_le (cN l n) l.length (room b) (N - 1)
    generalize bestM (cN l n) l.length (room b) (N - 1) = st at hble hk ⊢
    obtain ⟨bm, bc⟩ := st
    simp only at hble hk ⊢
    simp (maxSteps := 2000000) -implicitDefEqProofs only [uwl, u0, f_shU, Int.toNat_natCast, hsh, o10, s_alt, s_alt20, s_alt2t, s_alt2f, ↓s_loopi, ↓v_pq, ↓PRE, POST, CORE, Nat.reduceDiv, Nat.reduceMod, Int.reduceLT, Int.reduceLE, Int.reduceToNat, Int.reduceAdd, ↓reduceIte, Nat.reduceEqDiff, Nat.reduceAdd, Nat.reduceMul, Nat.reduceSub, Nat.reduceLeDiff, Nat.reduceLT, reduceCtorEq, if_true, eq_self, forall_const, implies_true]
    refine TXi_of (TX_count (@s32 J) l.length (fun i => [(7, .ptr 0 0), (13, rS 1 1 (bitsL bm i).length), (66, .v (.int .i64 (l.length : Int))), (67, .v (.int .i64 (i : Int)))]) (fun i => ⟨true, [.v (.int .u64 (bm : Int)), .v (.int .i64 bc)]⟩ :: rM (iL (bitsL bm i))) (fun i => True) trivial ?_ ?_ ?_)
    · have e0 : bitsL bm 0 = [] := rfl
      rw [e0, List.length_nil, rS_0, iL_nil, rM_0]
      exact (by refine ⟨[0], by simp [NdL, NdA, oO_cells, oO_own, iL_nil], ?_, ?_, keep0 hJ⟩ <;> simp only [FitM, FitE, ObLe, LeL, Le, List.cons_append, List.nil_append] <;> (try (simp (maxSteps := 2000000) -implicitDefEqProofs only [s_alt, s_alt20, s_alt2t, s_alt2f, ↓s_loopi, ↓v_pq, ↓PRE, POST, CORE, Nat.reduceDiv, Nat.reduceMod, Int.reduceLT, Int.reduceLE, Int.reduceToNat, Int.reduceAdd, ↓reduceIte, Nat.reduceEqDiff, Nat.reduceAdd, Nat.reduceMul, Nat.reduceSub, Nat.reduceLeDiff, Nat.reduceLT, reduceCtorEq, if_true, eq_self, forall_const, implies_true])) <;> (try simp only [Sz.Le, Sz.LeL, List.getElem?_cons_zero, List.getElem?_cons_succ]) <;> (try simp))
    · intro i hi _
      have i1 : (i : Int) < (l.length : Int) := by omega
      have i0 : (0 : Int) ≤ (i : Int) := by omega
      have w1 : IntKind.i64.wrap ((i : Int) + 1) = (i : Int) + 1 := Sz.w_64 (by omega) (by omega)
      have uwi : IntKind.u64.wrap (i : Int) = (i : Int) := uw (by omega) (by omega)
      have o01 : ((0 : Int) == 1) = false := rfl
      have hbl := bitsL_len bm i
      rw [bitsL_succ]
      generalize bitsL bm i = out at hbl ⊢
      cases hbit : bm.testBit i with
      | false =>
        have hb0 := bit0 (m := bm) (i := i) (by omega) (by omega) hbit
        simp only [Bool.false_eq_true, if_false]
        by_cases ho : out = []
        · obtain ⟨e8, e9⟩ := nil_facts ho
          rw [e8, e9]
          simp (maxSteps := 2000000) -implicitDefEqProofs only [i0, i1, w1, uwi, f_shU, Int.toNat_natCast, f_andU, hb0, o01, s_alt, s_alt20, s_alt2t, s_alt2f, ↓s_loopi, ↓v_pq, ↓PRE, POST, CORE, Nat.reduceDiv, Nat.reduceMod, Int.reduceLT, Int.reduceLE, Int.reduceToNat, Int.reduceAdd, ↓reduceIte, Nat.reduceEqDiff, Nat.reduceAdd, Nat.reduceMul, Nat.reduceSub, Nat.reduceLeDiff, Nat.reduceLT, reduceCtorEq, if_true, eq_self, forall_const, implies_true]
          exact (by refine ⟨[0], by simp [NdL, NdA, oO_cells, oO_own, iL_nil], ?_, ?_, keep0 hJ⟩ <;> simp only [FitM, FitE, ObLe, LeL, Le, List.cons_append, List.nil_append] <;> (try (simp (maxSteps := 2000000) -implicitDefEqProofs only [iL_fold, iL_over, iL_all, iL_get, iL_len, iL_take, iL_drop, iL_one, iL_plain, iL_le, List.length_set, s_alt, s_alt20, s_alt2t, s_alt2f, ↓s_loopi, ↓v_pq, ↓PRE, POST, CORE, Nat.reduceDiv, Nat.reduceMod, Int.reduceLT, Int.reduceLE, Int.reduceToNat, Int.reduceAdd, ↓reduceIte, Nat.reduceEqDiff, Nat.reduceAdd, Nat.reduceMul, Nat.reduceSub, Nat.reduceLeDiff, Nat.reduceLT, reduceCtorEq, if_true, eq_self, forall_const, implies_true])) <;> (try simp only [Sz.Le, Sz.LeL, List.getElem?_cons_zero, List.getElem?_cons_succ]) <;> (try simp))
        · obtain ⟨e8, e9⟩ := ne_facts ho
          rw [e8, e9]
          simp (maxSteps := 2000000) -implicitDefEqProofs only [i0, i1, w1, uwi, f_shU, Int.toNat_natCast, f_andU, hb0, o01, s_alt, s_alt20, s_alt2t, s_alt2f, ↓s_loopi, ↓v_pq, ↓PRE, POST, CORE, Nat.reduceDiv, Nat.reduceMod, Int.reduceLT, Int.reduceLE, Int.reduceToNat, Int.reduceAdd, ↓reduceIte, Nat.reduceEqDiff, Nat.reduceAdd, Nat.reduceMul, Nat.reduceSub, Nat.reduceLeDiff, Nat.reduceLT, reduceCtorEq, if_true, eq_self, forall_const, implies_true]
          exact (by refine ⟨[0, 1], by simp [NdL, NdA, oO_cells, oO_own, iL_nil], ?_, ?_, keep0 hJ⟩ <;> simp only [FitM, FitE, ObLe, LeL, Le, List.cons_append, List.nil_append] <;> (try (simp (maxSteps := 2000000) -implicitDefEqProofs only [iL_fold, iL_over, iL_all, iL_get, iL_len, iL_take, iL_drop, iL_one, iL_plain, iL_le, List.length_set, s_alt, s_alt20, s_alt2t, s_alt2f, ↓s_loopi, ↓v_pq, ↓PRE, POST, CORE, Nat.reduceDiv, Nat.reduceMod, Int.reduceLT, Int.reduceLE, Int.reduceToNat, Int.reduceAdd, ↓reduceIte, Nat.reduceEqDiff, Nat.reduceAdd, Nat.reduceMul, Nat.reduceSub, Nat.reduceLeDiff, Nat.reduceLT, reduceCtorEq, if_true, eq_self, forall_const, implies_true])) <;> (try simp only [Sz.Le, Sz.LeL, List.getElem?_cons_zero, List.getElem?_cons_succ]) <;> (try simp))
      | true =>
        have hb0 := bit1 (m := bm) (i := i) (by omega) (by omega) hbit
        simp only [if_true]
        obtain ⟨e6, e7⟩ := ne_facts (L := out ++ [(i : Int)]) (by simp)
        have hl1 : (out ++ [(i : Int)]).length = out.length + 1 := by simp
        rw [e6, e7, hl1]
        by_cases ho : out = []
        · subst ho
          rw [List.length_nil, rS_0, iL_nil, rM_0, List.nil_append]
          have e8 : iL [(i : Int)] = [.v (.int .i64 (i : Int))] := rfl
          rw [e8]
          simp (maxSteps := 2000000) -implicitDefEqProofs only [i0, i1, w1, uwi, f_shU, Int.toNat_natCast, f_andU, hb0, beq_self_eq_true, inp00, Option.map_some, List.map_nil, s_alt, s_alt20, s_alt2t, s_alt2f, ↓s_loopi, ↓v_pq, ↓PRE, POST, CORE, Nat.reduceDiv, Nat.reduceMod, Int.reduceLT, Int.reduceLE, Int.reduceToNat, Int.reduceAdd, ↓reduceIte, Nat.reduceEqDiff, Nat.reduceAdd, Nat.reduceMul, Nat.reduceSub, Nat.reduceLeDiff, Nat.reduceLT, reduceCtorEq, if_true, eq_self, forall_const, implies_true]
          exact ⟨by unfold maxLen; omega, (by refine ⟨[0, 2], by simp [NdL, NdA, oO_cells, oO_own, iL_nil], ?_, ?_, keep0 hJ⟩ <;> simp only [FitM, FitE, ObLe, LeL, Le, List.cons_append, List.nil_append] <;> (try (simp (maxSteps := 2000000) -implicitDefEqProofs only [s_alt, s_alt20, s_alt2t, s_alt2f, ↓s_loopi, ↓v_pq, ↓PRE, POST, CORE, Nat.reduceDiv, Nat.reduceMod, Int.reduceLT, Int.reduceLE, Int.reduceToNat, Int.reduceAdd, ↓reduceIte, Nat.reduceEqDiff, Nat.reduceAdd, Nat.reduceMul, Nat.reduceSub, Nat.reduceLeDiff, Nat.reduceLT, reduceCtorEq, if_true, eq_self, forall_const, implies_true])) <;> (try simp only [Sz.Le, Sz.LeL, List.getElem?_cons_zero, List.getElem?_cons_succ]) <;> (try simp))⟩
        · obtain ⟨e8, e9⟩ := ne_facts ho
          have h5 : out.length + 1 ≤ maxLen := by unfold maxLen; omega
          have h6 : (out.length + 1) * 8 ≤ 140737488355328 := by omega
          rw [e8, e9]
          simp (maxSteps := 2000000) -implicitDefEqProofs only [i0, i1, w1, uwi, f_shU, Int.toNat_natCast, f_andU, hb0, beq_self_eq_true, iL_fold, iL_over, iL_all, iL_get, iL_len, iL_take, iL_drop, iL_one, iL_plain, iL_le, List.length_set, Nat.mul_one, h5, h6, iL_snoc, List.take_length, s_alt, s_alt20, s_alt2t, s_alt2f, ↓s_loopi, ↓v_pq, ↓PRE, POST, CORE, Nat.reduceDiv, Nat.reduceMod, Int.reduceLT, Int.reduceLE, Int.reduceToNat, Int.reduceAdd, ↓reduceIte, Nat.reduceEqDiff, Nat.reduceAdd, Nat.reduceMul, Nat.reduceSub, Nat.reduceLeDiff, Nat.reduceLT, reduceCtorEq, if_true, eq_self, forall_const, implies_true]
          exact (by refine ⟨[0, 3], by simp [NdL, NdA, oO_cells, oO_own, iL_nil], ?_, ?_, keep0 hJ⟩ <;> simp only [FitM, FitE, ObLe, LeL, Le, List.cons_append, List.nil_append] <;> (try (simp (maxSteps := 2000000) -implicitDefEqProofs only [iL_fold, iL_over, iL_all, iL_get, iL_len, iL_take, iL_drop, iL_one, iL_plain, iL_le, List.length_set, s_alt, s_alt20, s_alt2t, s_alt2f, ↓s_loopi, ↓v_pq, ↓PRE, POST, CORE, Nat.reduceDiv, Nat.reduceMod, Int.reduceLT, Int.reduceLE, Int.reduceToNat, Int.reduceAdd, ↓reduceIte, Nat.reduceEqDiff, Nat.reduceAdd, Nat.reduceMul, Nat.reduceSub, Nat.reduceLeDiff, Nat.reduceLT, reduceCtorEq, if_true, eq_self, forall_const, implies_true])) <;> (try simp only [Sz.Le, Sz.LeL, List.getElem?_cons_zero, List.getElem?_cons_succ]) <;> (try simp))
    · intro _
      have i1 : ¬ (l.length : Int) < (l.length : Int) := by omega
      generalize bitsL bm l.length = Z at hk ⊢
      simp (maxSteps := 2000000) -implicitDefEqProofs only [i1, s_alt, s_alt20, s_alt2t, s_alt2f, ↓s_loopi, ↓v_pq, ↓PRE, POST, CORE, Nat.reduceDiv, Nat.reduceMod, Int.reduceLT, Int.reduceLE, Int.reduceToNat, Int.reduceAdd, ↓reduceIte, Nat.reduceEqDiff, Nat.reduceAdd, Nat.reduceMul, Nat.reduceSub, Nat.reduceLeDiff, Nat.reduceLT, reduceCtorEq, if_true, eq_self, forall_const, implies_true]
      by_cases hZ : Z = []
      · obtain ⟨e8, e9⟩ := nil_facts hZ
        rw [e8, e9] at hk ⊢
        rw [List.append_nil] at hk
        refine ⟨[], .v (.slice none 0 0), [], by simp [NdL], trivial, by simp, by simp only [Le], ?_⟩
        simpa [SV.up] using hk
      · obtain ⟨e8, e9⟩ := ne_facts hZ
        rw [e8, e9] at hk ⊢
        exact fin_i _ _ _ 1 rfl hk
end Qu
end Go.Proofs.Ytcejgadbpahbmaa
end
section
namespace Go.Proofs.Ytcejgadbpahbmaa.Qu
open Rc
theorem sum_perm {a b : List Int} (h : a.Perm b) : a.sum = b.sum := by
  induction h with
  | nil => rfl
  | cons x _ ih => simp [ih]
  | swap x y l => simp; omega
  | trans _ _ h1 h2 => exact h1.trans h2
def grO (c : Int → Int) : List Int → Int → List Int
  | [], _ => []
  | i :: o, R => if 0 < c i ∧ c i ≤ R then i :: grO c o (R - c i) else grO c o R
theorem grO_eq (c : Int → Int) : ∀ (o : List Int) (R : Int) (out : List Int), (o.foldl (grS c) (R, out)).2 = out ++ grO c o R
  | [], R, out => by simp [grO]
  | i :: o, R, out => by
    rw [List.foldl_cons]
    unfold grO
    by_cases h : 0 < c i ∧ c i ≤ R
    · have e : grS c (R, out) i = (R - c i, out ++ [i]) := if_pos h
      rw [e, if_pos h, grO_eq c o, List.append_assoc]; rfl
    · have e : grS c (R, out) i = (R, out) := if_neg h
      rw [e, if_neg h, grO_eq c o]
theorem grF_eq (c : Int → Int) (o : List Int) (R : Int) : (grF c o R).2 = grO c o R := by
  unfold grF
  rw [grO_eq, List.nil_append]
theorem grO_sub (c : Int → Int) : ∀ (o : List Int) (R : Int), (grO c o R).Sublist o
  | [], R => by simp [grO]
  | i :: o, R => by
    unfold grO
    split
    · exact (grO_sub c o _).cons_cons i
    · exact (grO_sub c o _).cons i
theorem grO_pos (c : Int → Int) : ∀ (o : List Int) (R : Int), ∀ i ∈ grO c o R, 0 < c i
  | [], R, i, h => by simp [grO] at h
  | j :: o, R, i, h => by
    unfold grO at h
    split at h
    · rename_i hj
      rcases List.mem_cons.1 h with rfl | h
      · exact hj.1
      · exact grO_pos c o _ i h
    · exact grO_pos c o _ i h
theorem grO_sum (c : Int → Int) : ∀ (o : List Int) (R : Int), 0 ≤ R → ((grO c o R).map c).sum ≤ R
  | [], R, h => by simpa [grO] using h
  | i :: o, R, h => by
    unfold grO
    split
    · rename_i hj
      rw [List.map_cons, List.sum_cons]
      have := grO_sum c o (R - c i) (by omega)
      omega
    · exact grO_sum c o R h
theorem sum_nonneg (c : Int → Int) : ∀ (L : List Int), (∀ i ∈ L, 0 < c i) → 0 ≤ (L.map c).sum
  | [], _ => by simp
  | i :: L, h => by
    have h1 := sum_nonneg c L fun j hj => h j (by simp [hj])
    have h2 := h i (by simp)
    rw [List.map_cons, List.sum_cons]
    omega
theorem sum_ge (c : Int → Int) {L : List Int} (h : ∀ i ∈ L, 0 < c i) {x : Int} (hx : x ∈ L) : c x ≤ (L.map c).sum := by
  have hp := (List.perm_cons_erase hx).map c
  have := sum_nonneg c (L.erase x) fun j hj => h j (List.mem_of_mem_erase hj)
  rw [sum_perm hp, List.map_cons, List.sum_cons]
  omega
theorem grO_most (c : Int → Int) : ∀ (o : List Int) (R : Int) (L : List Int), (o.Pairwise fun i j => c i ≤ c j) → L.Nodup → (∀ i ∈ L, i ∈ o) → (∀ i ∈ L, 0 < c i) → (L.map c).sum ≤ R → L.length ≤ (grO c o R).length
  | [], R, L, _, _, hs, _, _ => by
    cases L with
    | nil => simp
    | cons x L => exact absurd (hs x (by simp)) (by simp)
  | i :: o, R, L, ho, hn, hs, hp, hR => by
    rw [List.pairwise_cons] at ho
    have sub : i ∉ L → ∀ j ∈ L, j ∈ o := fun hi j hj => by
      rcases List.mem_cons.1 (hs j hj) with rfl | h
      · exact absurd hj hi
      · exact h
    unfold grO
    by_cases h1 : 0 < c i
    · by_cases h2 : c i ≤ R
      · rw [if_pos ⟨h1, h2⟩, List.length_cons]
        by_cases hi : i ∈ L
        · have hl := List.length_erase_of_mem hi
          have hp2 := sum_perm ((List.perm_cons_erase hi).map c)
          rw [List.map_cons, List.sum_cons] at hp2
          have := grO_most c o (R - c i) (L.erase i) ho.2 (hn.erase i) (fun j hj => by
            have hj1 := List.mem_of_mem_erase hj
            have hj2 : j ≠ i := fun e => by rw [e] at hj; exact (List.Nodup.not_mem_erase hn) hj
            rcases List.mem_cons.1 (hs j hj1) with rfl | h
            · exact absurd rfl hj2
            · exact h) (fun j hj => hp j (List.mem_of_mem_erase hj)) (by omega)
          omega
        · cases L with
          | nil => simp
          | cons x L =>
            rw [List.nodup_cons] at hn
            have hx := ho.1 x (sub hi x (by simp))
            rw [List.map_cons, List.sum_cons] at hR
            have := grO_most c o (R - c i) L ho.2 hn.2 (fun j hj => sub hi j (by simp [hj])) (fun j hj => hp j (by simp [hj])) (by omega)
            rw [List.length_cons]
            omega
      · rw [if_neg (fun q => h2 q.2)]
        cases L with
        | nil => simp
        | cons x L =>
          exfalso
          have h3 := sum_ge c hp (x := x) (by simp)
          have h4 : c i ≤ c x := by
            rcases List.mem_cons.1 (hs x (by simp)) with rfl | h
            · exact Int.le_refl _
            · exact ho.1 x h
          omega
    · rw [if_neg (fun q => h1 q.1)]
      exact grO_most c o R L ho.2 hn (sub fun hi => h1 (hp i hi)) hp hR
theorem getD_mid (P : List Int) (x : Int) (S : List Int) : (P ++ x :: S).getD P.length 0 = x := by
  rw [List.getD_eq_getElem?_getD, List.getElem?_append_right (Nat.le_refl _), Nat.sub_self]; rfl
theorem swp_mid (Q : List Int) (y x : Int) (S : List Int) : swp (Q ++ y :: x :: S) Q.length = Q ++ x :: y :: S := by
  have h1 : (Q ++ y :: x :: S).getD (Q.length + 1) 0 = x := by
    have := getD_mid (Q ++ [y]) x S
    simp
  unfold swp
  rw [h1, getD_mid, List.set_append_right _ _ (by omega), show Q.length + 1 - Q.length = 1 by omega, List.set_cons_succ, List.set_cons_zero, List.set_append_right _ _ (by omega), Nat.sub_self, List.set_cons_zero]
def srtd (c : Int → Int) (L : List Int) : Prop := L.Pairwise fun i j => c i ≤ c j
theorem bub_spec (c : Int → Int) : ∀ (n : Nat) (P : List Int), P.length = n → ∀ (x : Int) (S : List Int), srtd c P → ∃ P', bub c n (P ++ x :: S) = P' ++ S ∧ P'.Perm (x :: P) ∧ srtd c P'
  | 0, P, hP, x, S, hs => by
    obtain rfl := List.length_eq_zero_iff.1 hP
    exact ⟨[x], rfl, List.Perm.refl _, List.pairwise_singleton _ _⟩
  | n + 1, P, hP, x, S, hs => by
    rcases List.eq_nil_or_concat P with rfl | ⟨Q, y, rfl⟩
    · simp at hP
    rw [List.concat_eq_append] at hP hs ⊢
    have hQ : Q.length = n := by simpa using hP
    unfold srtd at hs
    rw [List.pairwise_append] at hs
    have e1 : Q ++ [y] ++ x :: S = Q ++ y :: x :: S := by simp
    have g1 : (Q ++ y :: x :: S).getD (n + 1) 0 = x := by
      have := getD_mid (Q ++ [y]) x S
      rw [← hQ]
      simp
    have g0 : (Q ++ y :: x :: S).getD n 0 = y := by rw [← hQ]; exact getD_mid Q y (x :: S)
    rw [e1, bub, g1, g0]
    by_cases h : c x < c y
    · rw [if_pos h, ← hQ, swp_mid, hQ]
      obtain ⟨Q', h1, h2, h3⟩ := bub_spec c n Q hQ x (y :: S) hs.1
      refine ⟨Q' ++ [y], by rw [h1]; simp, ?_, ?_⟩
      · refine (h2.append_right [y]).trans ?_
        simp
      · unfold srtd
        rw [List.pairwise_append]
        refine ⟨h3, List.pairwise_singleton _ _, fun a ha b hb => ?_⟩
        rw [List.mem_singleton] at hb
        subst hb
        rcases List.mem_cons.1 (h2.mem_iff.1 ha) with rfl | h4
        · omega
        · exact hs.2.2 a h4 b (by simp)
    · rw [if_neg h]
      refine ⟨Q ++ [y] ++ [x], by simp, ?_, ?_⟩
      · exact List.perm_append_comm.trans (List.Perm.refl _)
      · unfold srtd
        rw [List.pairwise_append, List.pairwise_append]
        refine ⟨hs, List.pairwise_singleton _ _, fun a ha b hb => ?_⟩
        rw [List.mem_singleton] at hb
        subst hb
        rcases List.mem_append.1 ha with h4 | h4
        · have := hs.2.2 a h4 y (by simp); omega
        · rw [List.mem_singleton] at h4; subst h4; omega
theorem isI_spec (c : Int → Int) (L : List Int) : ∀ i, i < L.length → ∃ P', isI c L i = P' ++ L.drop (i + 1) ∧ P'.Perm (L.take (i + 1)) ∧ srtd c P' ∧ P'.length = i + 1
  | 0, h => by
    cases L with
    | nil => simp at h
    | cons x L => exact ⟨[x], rfl, List.Perm.refl _, List.pairwise_singleton _ _, rfl⟩
  | i + 1, h => by
    obtain ⟨P, h1, h2, h3, h4⟩ := isI_spec c L i (by omega)
    have hx : L[i + 1]? = some L[i + 1] := List.getElem?_eq_getElem h
    have hd : L.drop (i + 1) = L[i + 1] :: L.drop (i + 1 + 1) := List.drop_eq_getElem_cons h
    obtain ⟨P', q1, q2, q3⟩ := bub_spec c (i + 1) P h4 L[i + 1] (L.drop (i + 1 + 1)) h3
    refine ⟨P', by rw [isI, h1, hd]; exact q1, ?_, q3, ?_⟩
    · rw [List.take_add_one, hx]
      refine q2.trans ((h2.cons _).trans ?_)
      exact (List.perm_append_singleton _ _).symm
    · rw [q2.length_eq, List.length_cons, h4]
theorem isN_spec (c : Int → Int) (L : List Int) : (isN c L).Perm L ∧ srtd c (isN c L) := by
  unfold isN
  cases L with
  | nil => exact ⟨List.Perm.refl _, List.Pairwise.nil⟩
  | cons x L =>
    obtain ⟨P, h1, h2, h3, h4⟩ := isI_spec c (x :: L) ((x :: L).length - 1) (by simp)
    have e : (x :: L).length - 1 + 1 = (x :: L).length := by simp
    rw [e, List.drop_length, List.append_nil] at h1
    rw [e, List.take_length] at h2
    rw [h1]
    exact ⟨h2, h3⟩
theorem idN_mem {n : Nat} {i : Int} : i ∈ idN n ↔ 0 ≤ i ∧ i < n := by
  unfold idN
  rw [List.mem_map]
  constructor
  · rintro ⟨j, hj, rfl⟩
    have := List.mem_range.1 hj
    simp only [Int.ofNat_eq_natCast]
    omega
  · rintro ⟨h1, h2⟩
    exact ⟨i.toNat, List.mem_range.2 (by omega), by simp only [Int.ofNat_eq_natCast]; omega⟩
theorem nodup_of {l : List Nat} (h : l.Nodup) : (l.map Int.ofNat).Nodup := by
  refine List.Pairwise.map _ (fun a b hab e => hab ?_) h
  exact Int.ofNat.inj e
theorem idN_nodup (n : Nat) : (idN n).Nodup := nodup_of List.nodup_range
theorem bitsL_nodup (m n : Nat) : (bitsL m n).Nodup := nodup_of (List.nodup_range.filter _)
theorem bitsL_mem {m n : Nat} {i : Int} : i ∈ bitsL m n ↔ 0 ≤ i ∧ i < n ∧ m.testBit i.toNat = true := by
  unfold bitsL
  rw [List.mem_map]
  constructor
  · rintro ⟨j, hj, rfl⟩
    rw [List.mem_filter, List.mem_range] at hj
    simp only [Int.ofNat_eq_natCast, Int.toNat_natCast]
    exact ⟨by omega, by omega, hj.2⟩
  · rintro ⟨h1, h2, h3⟩
    exact ⟨i.toNat, List.mem_filter.2 ⟨List.mem_range.2 (by omega), h3⟩, by simp only [Int.ofNat_eq_natCast]; omega⟩
def maskOf (p : Nat → Bool) : Nat → Nat
  | 0 => 0
  | n + 1 => if p n = true then maskOf p n ||| 2 ^ n else maskOf p n
theorem maskOf_lt (p : Nat → Bool) : ∀ n, maskOf p n < 2 ^ n
  | 0 => by simp [maskOf]
  | n + 1 => by
    have h := maskOf_lt p n
    have h2 : 2 ^ n < 2 ^ (n + 1) := Nat.pow_lt_pow_right (by omega) (by omega)
    unfold maskOf
    split
    · exact Nat.or_lt_two_pow (by omega) h2
    · omega
theorem maskOf_bit (p : Nat → Bool) : ∀ n i, (maskOf p n).testBit i = (decide (i < n) && p i)
  | 0, i => by simp [maskOf]
  | n + 1, i => by
    unfold maskOf
    split
    · rename_i h
      rw [Nat.testBit_or, maskOf_bit p n i, Nat.testBit_two_pow]
      by_cases h1 : n = i
      · subst h1; simp [h]
      · by_cases h2 : i < n
        · simp [h1, h2, show i < n + 1 by omega]
        · simp [h1, h2, show ¬ i < n + 1 by omega]
    · rename_i h
      rw [maskOf_bit p n i]
      by_cases h1 : n = i
      · subst h1; simp at h; simp [h]
      · by_cases h2 : i < n
        · simp [h2, show i < n + 1 by omega]
        · simp [h2, show ¬ i < n + 1 by omega]
theorem sumB_bits {c : Int → Int} {d : Nat → Int} (h : ∀ i : Nat, d i = c (i : Int)) (m : Nat) : ∀ n, sumB d m n = ((bitsL m n).map c).sum
  | 0 => rfl
  | n + 1 => by
    rw [bitsL_succ, sumB, sumB_bits h m n]
    split
    · rw [List.map_append, List.sum_append, h]; simp
    · rfl
theorem badB_false {d : Nat → Int} {m : Nat} : ∀ {n}, badB d m n = false ↔ ∀ i, i < n → m.testBit i = true → d i ≠ 0
  | 0 => by simp [badB]
  | n + 1 => by
    rw [badB, Bool.or_eq_false_iff, badB_false]
    constructor
    · rintro ⟨h1, h2⟩ i hi hb
      rcases Nat.lt_or_ge i n with h3 | h3
      · exact h1 i h3 hb
      · obtain rfl : i = n := by omega
        rw [hb, Bool.true_and] at h2
        simpa using h2
    · intro h
      refine ⟨fun i hi hb => h i (by omega) hb, ?_⟩
      cases hb : m.testBit n with
      | false => rfl
      | true =>
        have := h n (by omega) hb
        simpa using this
theorem bestM_inv (d : Nat → Int) (n : Nat) (R : Int) : ∀ x, ((bestM d n R x = (0, 0)) ∨ (1 ≤ (bestM d n R x).1 ∧ (bestM d n R x).1 ≤ x ∧ costM d n (bestM d n R x).1 = (bestM d n R x).2 ∧ (bestM d n R x).2 ≤ R)) ∧ ∀ m, 1 ≤ m → m ≤ x → costM d n m ≤ R → costM d n m ≤ (bestM d n R x).2
  | 0 => ⟨.inl rfl, fun m h1 h2 => by omega⟩
  | x + 1 => by
    obtain ⟨h1, h2⟩ := bestM_inv d n R x
    unfold bestM
    split
    · rename_i h
      refine ⟨.inr ⟨by simp, Nat.le_refl _, rfl, h.1⟩, fun m q1 q2 q3 => ?_⟩
      simp only
      have hb := h.2
      unfold betF at hb
      rcases Nat.lt_or_ge x m with q4 | q4
      · obtain rfl : m = x + 1 := by omega
        exact Int.le_refl _
      · have := h2 m q1 q4 q3
        split at hb
        · have := of_decide_eq_true hb; omega
        · rename_i e; rw [Decidable.not_not] at e; omega
    · rename_i h
      refine ⟨h1.imp id fun q => ⟨q.1, by omega, q.2.2⟩, fun m q1 q2 q3 => ?_⟩
      rcases Nat.lt_or_ge x m with q4 | q4
      · obtain rfl : m = x + 1 := by omega
        have hb : ¬ betF ((x + 1 : Nat) : Int) (costM d n (x + 1)) ((bestM d n R x).1 : Int) (bestM d n R x).2 = true := fun q => h ⟨q3, q⟩
        unfold betF at hb
        split at hb
        · rename_i e
          rw [decide_eq_true_eq] at hb
          omega
        · rename_i e; rw [Decidable.not_not] at e; omega
      · exact h2 m q1 q4 q3
theorem cN_cA (l : List Ra.Rg) (n : Int) (i : Nat) : cN l n i = cA l n (i : Int) := rfl
def Fe (l : List Ra.Rg) (n R : Int) (L : List Int) : Prop := L.Nodup ∧ (∀ i ∈ L, 0 ≤ i ∧ i < l.length) ∧ (∀ i ∈ L, 0 < cA l n i) ∧ sumC l n L ≤ R
theorem full_Fe {l : List Ra.Rg} {b n : Int} (hl : l.length ≤ 12) (hb : 0 ≤ b) : Fe l n (room b) (fullF l b n) := by
  have hr64 : room b ≤ 64 := by unfold room; split <;> omega
  have hr0 : 0 ≤ room b := by unfold room; split <;> omega
  unfold fullF
  rw [if_neg (by omega)]
  obtain ⟨h1, _⟩ := bestM_inv (cN l n) l.length (room b) (2 ^ l.length - 1)
  generalize bestM (cN l n) l.length (room b) (2 ^ l.length - 1) = st at h1 ⊢
  obtain ⟨M, C⟩ := st
  refine ⟨bitsL_nodup _ _, fun i hi => ?_, fun i hi => ?_, ?_⟩
  · obtain ⟨q1, q2, _⟩ := bitsL_mem.1 hi
    exact ⟨q1, q2⟩
  · obtain ⟨q1, q2, q3⟩ := bitsL_mem.1 hi
    rcases h1 with h1 | ⟨_, _, h3, h4⟩
    · injection h1 with e1 e2
      subst e1
      simp at q3
    · simp only at h3 h4 q3
      have hbad : badB (cN l n) M l.length = false := by
        cases hb : badB (cN l n) M l.length with
        | false => rfl
        | true => rw [costM, if_pos hb] at h3; omega
      have h5 := badB_false.1 hbad i.toNat (by omega) q3
      have h6 : cN l n i.toNat = cA l n i := by rw [cN_cA, Int.toNat_of_nonneg q1]
      have := cA_bd l n i
      omega
  · unfold sumC
    rw [← sumB_bits (cN_cA l n)]
    rcases h1 with h1 | ⟨_, _, h3, h4⟩
    · injection h1 with e1 e2
      subst e1
      have : ∀ k, sumB (cN l n) 0 k = 0 := fun k => by
        induction k with
        | zero => rfl
        | succ k ih => rw [sumB, ih]; simp
      rw [this]
      exact hr0
    · simp only at h3 h4 ⊢
      cases hb : badB (cN l n) M l.length with
      | false => rw [costM, hb] at h3; simp at h3; omega
      | true => rw [costM, if_pos hb] at h3; omega
theorem full_max {l : List Ra.Rg} {b n : Int} (hl : l.length ≤ 12) (hb : 0 ≤ b) {L : List Int} (h : Fe l n (room b) L) : sumC l n L ≤ sumC l n (fullF l b n) := by
  have hr64 : room b ≤ 64 := by unfold room; split <;> omega
  obtain ⟨hn, hi, hp, hs⟩ := h
  unfold fullF
  rw [if_neg (by omega)]
  obtain ⟨h1, h2⟩ := bestM_inv (cN l n) l.length (room b) (2 ^ l.length - 1)
  have hC : sumC l n (bitsL (bestM (cN l n) l.length (room b) (2 ^ l.length - 1)).1 l.length) = (bestM (cN l n) l.length (room b) (2 ^ l.length - 1)).2 := by
    generalize bestM (cN l n) l.length (room b) (2 ^ l.length - 1) = st at h1 ⊢
    obtain ⟨M, C⟩ := st
    unfold sumC
    rw [← sumB_bits (cN_cA l n)]
    rcases h1 with h1 | ⟨_, _, h3, h4⟩
    · injection h1 with e1 e2
      subst e1; subst e2
      have : ∀ k, sumB (cN l n) 0 k = 0 := fun k => by
        induction k with
        | zero => rfl
        | succ k ih => rw [sumB, ih]; simp
      rw [this]
    · simp only at h3 h4 ⊢
      cases hb : badB (cN l n) M l.length with
      | false => rw [costM, hb] at h3; simpa using h3
      | true => rw [costM, if_pos hb] at h3; omega
  rw [hC]
  obtain ⟨p, hpd⟩ : ∃ p : Nat → Bool, p = fun i : Nat => decide ((i : Int) ∈ L) := ⟨_, rfl⟩
  have hbit : ∀ i, (maskOf p l.length).testBit i = (decide (i < l.length) && p i) := maskOf_bit p l.length
  have hperm : (bitsL (maskOf p l.length) l.length).Perm L := by
    refine (List.perm_ext_iff_of_nodup (bitsL_nodup _ _) hn).2 fun i => ?_
    rw [bitsL_mem, hbit]
    constructor
    · rintro ⟨q1, q2, q3⟩
      rw [Bool.and_eq_true, hpd, decide_eq_true_eq, decide_eq_true_eq] at q3
      rw [← Int.toNat_of_nonneg q1]
      exact q3.2
    · intro q
      obtain ⟨q1, q2⟩ := hi i q
      refine ⟨q1, q2, ?_⟩
      rw [Bool.and_eq_true, hpd, decide_eq_true_eq, decide_eq_true_eq]
      exact ⟨by omega, by rw [Int.toNat_of_nonneg q1]; exact q⟩
  have hsum : sumB (cN l n) (maskOf p l.length) l.length = sumC l n L := by
    rw [sumB_bits (cN_cA l n)]
    exact sum_perm (hperm.map _)
  have hbad : badB (cN l n) (maskOf p l.length) l.length = false := badB_false.2 fun i h3 h4 => by
    rw [hbit, Bool.and_eq_true, hpd, decide_eq_true_eq, decide_eq_true_eq] at h4
    have := hp _ h4.2
    rw [cN_cA]
    omega
  have hcost : costM (cN l n) l.length (maskOf p l.length) = sumC l n L := by rw [costM, hbad, if_neg (by simp), hsum]
  rcases Nat.eq_zero_or_pos (maskOf p l.length) with h0 | h0
  · have hL : L = [] := by
      have := hperm.length_eq
      rw [h0] at this
      have e : bitsL 0 l.length = [] := by unfold bitsL; simp
      rw [e] at this
      exact List.length_eq_zero_iff.1 this.symm
    subst hL
    have e : sumC l n [] = 0 := rfl
    rw [e]
    rcases h1 with h1 | ⟨_, _, h3, h4⟩
    · rw [h1]; exact Int.le_refl _
    · rw [← h3]
      unfold costM
      split
      · omega
      · exact (sumB_bd (cN_bd l n) _ _).1
  · have := h2 (maskOf p l.length) h0 (by have := maskOf_lt p l.length; omega) (by rw [hcost]; exact hs)
    rw [hcost] at this
    exact this
theorem grant_Fe {l : List Ra.Rg} {b n : Int} (hb : 0 ≤ b) {o : List Int} (ho : o.Perm (idN l.length)) : Fe l n (room b) (grantF l o b n) := by
  have hr0 : 0 ≤ room b := by unfold room; split <;> omega
  unfold grantF
  rw [grF_eq]
  have hp := srt_perm (grO (cA l n) o (room b))
  have hsub := grO_sub (cA l n) o (room b)
  refine ⟨hp.nodup_iff.2 ((ho.nodup_iff.2 (idN_nodup _)).sublist hsub), fun i hi => ?_, fun i hi => ?_, ?_⟩
  · exact idN_mem.1 (ho.mem_iff.1 (hsub.subset (hp.mem_iff.1 hi)))
  · exact grO_pos _ _ _ i (hp.mem_iff.1 hi)
  · unfold sumC
    rw [sum_perm (hp.map _)]
    exact grO_sum _ _ _ hr0
theorem most_max {l : List Ra.Rg} {b n : Int} {L : List Int} (h : Fe l n (room b) L) : L.length ≤ (mostF l b n).length := by
  obtain ⟨hn, hi, hp, hs⟩ := h
  obtain ⟨h1, h2⟩ := isN_spec (cA l n) (idN l.length)
  unfold mostF grantF
  rw [grF_eq, srt_len]
  exact grO_most (cA l n) _ _ L h2 hn (fun i q => h1.mem_iff.2 (idN_mem.2 (hi i q))) hp hs
theorem most_Fe {l : List Ra.Rg} {b n : Int} (hb : 0 ≤ b) : Fe l n (room b) (mostF l b n) := grant_Fe hb (isN_spec _ _).1
theorem first_Fe {l : List Ra.Rg} {b n : Int} (hb : 0 ≤ b) : Fe l n (room b) (grantF l (idN l.length) b n) := grant_Fe hb (List.Perm.refl _)
end Go.Proofs.Ytcejgadbpahbmaa.Qu
end
section
namespace Go.Proofs.Ytcejgadbpahbmaa
open Go.RowKit Sz
set_option linter.unusedSectionVars false
set_option maxHeartbeats 16000000
set_option maxRecDepth 20000
namespace Qu
open Rc
def RdI [Inp] (m : Mem) (s : SV) (L : List Int) : Prop := ∀ t, rdI (m ++ t) s = some L
section
variable [Inp] {m : Mem} {s s1 s2 : SV} {L : List Int} {l : List Ra.Rg} {b n : Int} {K : SV → Mem → Prop}
theorem RdI.get (h : RdI m s L) : rdI m s = some L := by have := h []; rwa [List.append_nil] at this
theorem RdI.ext (h : RdI m s L) (t : Mem) : RdI (m ++ t) s L := fun u => by rw [List.append_assoc]; exact h _
theorem iM_new (h : L ≠ []) : (m ++ rM (iL L))[m.length]? = some ⟨true, iL L⟩ := by
  rw [(ne_facts h).1, List.getElem?_append_right (Nat.le_refl _), Nat.sub_self]
  rfl
theorem RdI_new : RdI (m ++ rM (iL L)) (rS m.length 1 L.length) L := fun t => by
  by_cases h : L = []
  · rw [(nil_facts h).2, h]
    have := @rdI_v _ (m ++ rM (iL ([] : List Int)) ++ t) none 0 0 [] rfl
    exact this
  · rw [(ne_facts h).2]
    refine rdI_r (o := true) ?_
    rw [List.getElem?_append_left (by rw [List.length_append, (ne_facts h).1]; simp)]
    exact iM_new h
theorem i35 {l : List SV} : c35 l m K = @useI c35 l m ⟨K⟩ := Eq.trans rfl rfl
theorem i36 {l : List SV} : c36 l m K = @useI c36 l m ⟨K⟩ := Eq.trans rfl rfl
theorem i32 {l : List SV} : c32 l m K = @useI c32 l m ⟨K⟩ := Eq.trans rfl rfl
theorem i37 {l : List SV} : c37 l m K = @useI c37 l m ⟨K⟩ := Eq.trans rfl rfl
theorem i34 {l : List SV} : c34 l m K = @useI c34 l m ⟨K⟩ := Eq.trans rfl rfl
def Up (m m' : Mem) : Prop := (∀ s L, RdE m s L → RdE m' s L) ∧ (∀ s L, RdI m s L → RdI m' s L) ∧ ∀ (i : Nat) o, m[i]? = some o → m'[i]? = some o
theorem up_app (t : Mem) : Up m (m ++ t) := ⟨fun s L h => h.ext _, fun s L h => h.ext _, fun i o h => at_app h⟩
theorem useNew {F : List Int} (hk : ∀ j m', RdI m' (rS j 1 F.length) F → (F ≠ [] → m'[j]? = some ⟨true, iL F⟩) → Up m m' → K (rS j 1 F.length) m') : K (rS m.length 1 F.length) (m ++ rM (iL F)) := hk _ _ RdI_new (fun h => iM_new h) (up_app _)
theorem useFirst {F : List Int} (hF : grantF l (idN l.length) b n = F) (h1 : RdE m s l) (hl : l.length ≤ 1000) (hk : ∀ j m', RdI m' (rS j 1 F.length) F → (F ≠ [] → m'[j]? = some ⟨true, iL F⟩) → Up m m' → K (rS j 1 F.length) m') : c35 [s, .v (.int .i64 b), .v (.int .i64 n)] m K :=
  ⟨s, l, b, n, rfl, h1.get, hl, by rw [hF]; exact useNew hk⟩
theorem useMost {F : List Int} (hF : mostF l b n = F) (h1 : RdE m s l) (hl : l.length < 20) (hk : ∀ j m', RdI m' (rS j 1 F.length) F → (F ≠ [] → m'[j]? = some ⟨true, iL F⟩) → Up m m' → K (rS j 1 F.length) m') : c36 [s, .v (.int .i64 b), .v (.int .i64 n)] m K :=
  ⟨s, l, b, n, rfl, h1.get, hl, by rw [hF]; exact useNew hk⟩
theorem useFull {F : List Int} (hF : fullF l b n = F) (h1 : RdE m s l) (hl : l.length ≤ 1000) (hk : ∀ j m', RdI m' (rS j 1 F.length) F → (F ≠ [] → m'[j]? = some ⟨true, iL F⟩) → Up m m' → K (rS j 1 F.length) m') : c32 [s, .v (.int .i64 b), .v (.int .i64 n)] m K :=
  ⟨s, l, b, n, rfl, h1.get, hl, by rw [hF]; exact useNew hk⟩
theorem useSum {ch : List Int} (h1 : RdE m s1 l) (h2 : RdI m s2 ch) (hl : l.length ≤ 1000) (hc : ch.length ≤ 1000) (hr : ∀ i ∈ ch, 0 ≤ i ∧ i < l.length) (hk : K (.v (.int .i64 (sumC l n ch))) m) : c37 [s1, s2, .v (.int .i64 n)] m K :=
  ⟨s1, s2, l, ch, n, rfl, h1.get, h2.get, hl, hc, hr, hk⟩
theorem useWish (h1 : RdE m s l) (hl : l.length ≤ 1000) (hk : ∀ j m', RdE m' (rS j 2 l.length) l → Up m m' → K (rS j 2 l.length) m') : c34 [s] m K :=
  ⟨s, l, rfl, h1.get, by omega, hk _ _ RdE_new (up_app _)⟩
end
-- almshouse/almshouselaw41.fixed (0 parameters)
def x30 : XC := (.seq (.tree (.seq ⟨some 0, none, (.ofA (.mv (.cst (.v (.bool false)))))⟩
 .done))
 (.seq (.tree (.seq ⟨some 5, none, (.build [(.v (.int .i64 0)), (.v (.int .i64 0))] [(0, 1, (.cst (.v (.int .i64 8))))])⟩
 (.seq ⟨some 6, none, (.build [(.v (.int .i64 0)), (.v (.int .i64 0))] [(0, 1, (.cst (.v (.int .i64 3))))])⟩
 (.seq ⟨some 7, none, (.build [(.v (.int .i64 0)), (.v (.int .i64 0))] [(0, 1, (.cst (.v (.int .i64 1)))), (1, 1, (.cst (.v (.int .i64 1))))])⟩
 (.seq ⟨some 8, none, (.buildSl 2 3 [(.v (.int .i64 0)), (.v (.int .i64 0)), (.v (.int .i64 0)), (.v (.int .i64 0)), (.v (.int .i64 0)), (.v (.int .i64 0))] [(0, 2, (.tmp 5)), (2, 2, (.tmp 6)), (4, 2, (.tmp 7))])⟩
 (.seq ⟨some 1, none, (.ofA (.mv (.tmp 8)))⟩
 .done))))))
 (.seq (.tree (.seq ⟨some 9, none, (.ofA (.mv (.tmp 1)))⟩
 (.seq ⟨some 10, none, (.call (.cst (.fn 35 [])) [(.tmp 9), (.cst (.v (.int .i64 6))), (.cst (.v (.int .i64 4)))])⟩
 (.seq ⟨some 11, none, (.ofA (.mv (.tmp 1)))⟩
 (.seq ⟨some 12, none, (.call (.cst (.fn 36 [])) [(.tmp 11), (.cst (.v (.int .i64 6))), (.cst (.v (.int .i64 4)))])⟩
 (.seq ⟨some 13, none, (.ofA (.mv (.tmp 1)))⟩
 (.seq ⟨some 14, none, (.call (.cst (.fn 32 [])) [(.tmp 13), (.cst (.v (.int .i64 6))), (.cst (.v (.int .i64 4)))])⟩
 (.seq ⟨some 2, none, (.ofA (.mv (.tmp 10)))⟩
 (.seq ⟨some 3, none, (.ofA (.mv (.tmp 12)))⟩
 (.seq ⟨some 4, none, (.ofA (.mv (.tmp 14)))⟩
 .done))))))))))
 (.seq (.tree (.seq ⟨some 15, none, (.ofA (.mv (.tmp 1)))⟩
 (.seq ⟨some 16, none, (.ofA (.isl 2 (.tmp 15) (.cst (.v (.int .i64 0)))))⟩
 (.seq ⟨some 17, none, (.ofA (.load (some 2) (.tmp 16)))⟩
 (.seq ⟨some 18, none, (.call (.cst (.fn 62 [])) [(.tmp 17), (.cst (.v (.int .i64 4)))])⟩
 (.seq ⟨some 19, none, (.ofA (.bin .eql (.tmp 18) (.cst (.v (.int .i64 4)))))⟩
 (.seq ⟨some 20, none, (.ofA (.mv (.tmp 19)))⟩
 (.seq ⟨some 21, some (20, true), (.ofA (.mv (.tmp 2)))⟩
 (.seq ⟨some 22, some (20, true), (.ofA (.len (.tmp 21)))⟩
 (.seq ⟨some 23, some (20, true), (.ofA (.bin .eql (.tmp 22) (.cst (.v (.int .i64 2)))))⟩
 (.seq ⟨some 24, none, (.ofA (.pick (.tmp 20) (.tmp 23) (.cst (.v (.bool false)))))⟩
 (.seq ⟨some 25, none, (.ofA (.mv (.tmp 24)))⟩
 (.seq ⟨some 26, some (25, true), (.ofA (.mv (.tmp 2)))⟩
 (.seq ⟨some 27, some (25, true), (.ofA (.isl 1 (.tmp 26) (.cst (.v (.int .i64 1)))))⟩
 (.seq ⟨some 28, some (25, true), (.ofA (.load none (.tmp 27)))⟩
 (.seq ⟨some 29, some (25, true), (.ofA (.bin .eql (.tmp 28) (.cst (.v (.int .i64 1)))))⟩
 (.seq ⟨some 30, none, (.ofA (.pick (.tmp 25) (.tmp 29) (.cst (.v (.bool false)))))⟩
 (.seq ⟨some 31, none, (.ofA (.mv (.tmp 30)))⟩
 (.seq ⟨some 32, some (31, true), (.ofA (.mv (.tmp 3)))⟩
 (.seq ⟨some 33, some (31, true), (.ofA (.len (.tmp 32)))⟩
 (.seq ⟨some 34, some (31, true), (.ofA (.bin .eql (.tmp 33) (.cst (.v (.int .i64 2)))))⟩
 (.seq ⟨some 35, none, (.ofA (.pick (.tmp 31) (.tmp 34) (.cst (.v (.bool false)))))⟩
 (.seq ⟨some 36, none, (.ofA (.mv (.tmp 35)))⟩
 (.seq ⟨some 37, some (36, true), (.ofA (.mv (.tmp 3)))⟩
 (.seq ⟨some 38, some (36, true), (.ofA (.isl 1 (.tmp 37) (.cst (.v (.int .i64 0)))))⟩
 (.seq ⟨some 39, some (36, true), (.ofA (.load none (.tmp 38)))⟩
 (.seq ⟨some 40, some (36, true), (.ofA (.bin .eql (.tmp 39) (.cst (.v (.int .i64 1)))))⟩
 (.seq ⟨some 41, none, (.ofA (.pick (.tmp 36) (.tmp 40) (.cst (.v (.bool false)))))⟩
 (.seq ⟨some 42, none, (.ofA (.mv (.tmp 41)))⟩
 (.seq ⟨some 43, some (42, true), (.ofA (.mv (.tmp 4)))⟩
 (.seq ⟨some 44, some (42, true), (.ofA (.len (.tmp 43)))⟩
 (.seq ⟨some 45, some (42, true), (.ofA (.bin .eql (.tmp 44) (.cst (.v (.int .i64 2)))))⟩
 (.seq ⟨some 46, none, (.ofA (.pick (.tmp 42) (.tmp 45) (.cst (.v (.bool false)))))⟩
 (.seq ⟨some 47, none, (.ofA (.mv (.tmp 46)))⟩
 (.seq ⟨some 48, some (47, true), (.ofA (.mv (.tmp 4)))⟩
 (.seq ⟨some 49, some (47, true), (.ofA (.isl 1 (.tmp 48) (.cst (.v (.int .i64 0)))))⟩
 (.seq ⟨some 50, some (47, true), (.ofA (.load none (.tmp 49)))⟩
 (.seq ⟨some 51, some (47, true), (.ofA (.bin .eql (.tmp 50) (.cst (.v (.int .i64 0)))))⟩
 (.seq ⟨some 52, none, (.ofA (.pick (.tmp 47) (.tmp 51) (.cst (.v (.bool false)))))⟩
 (.seq ⟨some 53, none, (.ofA (.mv (.tmp 52)))⟩
 (.seq ⟨some 54, some (53, true), (.call (.cst (.fn 35 [])) [(.cst (.v (.slice none 0 0))), (.cst (.v (.int .i64 9))), (.cst (.v (.int .i64 4)))])⟩
 (.seq ⟨some 55, some (53, true), (.ofA (.len (.tmp 54)))⟩
 (.seq ⟨some 56, some (53, true), (.ofA (.bin .eql (.tmp 55) (.cst (.v (.int .i64 0)))))⟩
 (.seq ⟨some 57, none, (.ofA (.pick (.tmp 53) (.tmp 56) (.cst (.v (.bool false)))))⟩
 (.seq ⟨some 0, none, (.ofA (.mv (.tmp 57)))⟩
 .done)))))))))))))))))))))))))))))))))))))))))))))
 .ret))))
def r30 : List XR := [.tmp 0]
theorem fn30 : FnX Try.prog 30 [82, 68, 97, 118] 58 x30 r30 := ⟨_, Try.func30, by kernel_rfl, by kernel_rfl, by kernel_rfl, by kernel_rfl⟩
-- almshouse/almshouselaw41.QuotaMost (3 parameters)
def x8 : XC := (.seq (.tree (.seq ⟨some 6, none, (.ofA (.mv (.cst (.v (.bool false)))))⟩
 .done))
 (.seq (.seq (.tree (.seq ⟨some 14, none, (.call (.cst (.fn 30 [])) [])⟩
 (.seq ⟨some 15, none, (.ofA (.un .not (.tmp 14)))⟩
 .done)))
 (.cond (.tmp 15)
 (.seq (.tree (.seq ⟨some 6, none, (.ofA (.mv (.cst (.v (.bool false)))))⟩
 .done))
 .ret)
 .skip))
 (.seq (.seq (.tree (.seq ⟨some 16, none, (.ofA (.mv (.tmp 0)))⟩
 (.seq ⟨some 17, none, (.ofA (.len (.tmp 16)))⟩
 (.seq ⟨some 18, none, (.ofA (.bin .gtr (.tmp 17) (.cst (.v (.int .i64 12)))))⟩
 .done))))
 (.cond (.tmp 18)
 (.seq (.tree (.seq ⟨some 6, none, (.ofA (.mv (.cst (.v (.bool true)))))⟩
 .done))
 .ret)
 .skip))
 (.seq (.tree (.seq ⟨some 19, none, (.ofA (.mv (.tmp 1)))⟩
 (.seq ⟨some 20, none, (.ofA (.bin .rem (.tmp 19) (.cst (.v (.int .u8 70)))))⟩
 (.seq ⟨some 21, none, (.ofA (.conv .i64 (.tmp 20)))⟩
 (.seq ⟨some 22, none, (.ofA (.mv (.tmp 2)))⟩
 (.seq ⟨some 23, none, (.ofA (.bin .rem (.tmp 22) (.cst (.v (.int .u8 15)))))⟩
 (.seq ⟨some 24, none, (.ofA (.conv .i64 (.tmp 23)))⟩
 (.seq ⟨some 25, none, (.ofA (.bin .add (.cst (.v (.int .i64 2))) (.tmp 24)))⟩
 (.seq ⟨some 7, none, (.ofA (.mv (.tmp 21)))⟩
 (.seq ⟨some 8, none, (.ofA (.mv (.tmp 25)))⟩
 .done))))))))))
 (.seq (.tree (.seq ⟨some 26, none, (.ofA (.mv (.tmp 0)))⟩
 (.seq ⟨some 27, none, (.call (.cst (.fn 34 [])) [(.tmp 26)])⟩
 (.seq ⟨some 9, none, (.ofA (.mv (.tmp 27)))⟩
 .done))))
 (.seq (.tree (.seq ⟨some 28, none, (.ofA (.mv (.tmp 0)))⟩
 (.seq ⟨some 29, none, (.ofA (.mv (.tmp 7)))⟩
 (.seq ⟨some 30, none, (.ofA (.mv (.tmp 8)))⟩
 (.seq ⟨some 31, none, (.call (.cst (.fn 35 [])) [(.tmp 28), (.tmp 29), (.tmp 30)])⟩
 (.seq ⟨some 32, none, (.ofA (.mv (.tmp 0)))⟩
 (.seq ⟨some 33, none, (.ofA (.mv (.tmp 7)))⟩
 (.seq ⟨some 34, none, (.ofA (.mv (.tmp 8)))⟩
 (.seq ⟨some 35, none, (.call (.cst (.fn 36 [])) [(.tmp 32), (.tmp 33), (.tmp 34)])⟩
 (.seq ⟨some 36, none, (.ofA (.mv (.tmp 0)))⟩
 (.seq ⟨some 37, none, (.ofA (.mv (.tmp 7)))⟩
 (.seq ⟨some 38, none, (.ofA (.mv (.tmp 8)))⟩
 (.seq ⟨some 39, none, (.call (.cst (.fn 32 [])) [(.tmp 36), (.tmp 37), (.tmp 38)])⟩
 (.seq ⟨some 10, none, (.ofA (.mv (.tmp 31)))⟩
 (.seq ⟨some 11, none, (.ofA (.mv (.tmp 35)))⟩
 (.seq ⟨some 12, none, (.ofA (.mv (.tmp 39)))⟩
 .done))))))))))))))))
 (.seq (.tree (.seq ⟨some 40, none, (.ofA (.mv (.tmp 7)))⟩
 (.seq ⟨some 41, none, (.ofA (.mx false (.tmp 40) [(.cst (.v (.int .i64 64)))]))⟩
 (.seq ⟨some 13, none, (.ofA (.mv (.tmp 41)))⟩
 .done))))
 (.seq (.tree (.seq ⟨some 42, none, (.ofA (.mv (.tmp 11)))⟩
 (.seq ⟨some 43, none, (.ofA (.len (.tmp 42)))⟩
 (.seq ⟨some 44, none, (.ofA (.mv (.tmp 10)))⟩
 (.seq ⟨some 45, none, (.ofA (.len (.tmp 44)))⟩
 (.seq ⟨some 46, none, (.ofA (.bin .geq (.tmp 43) (.tmp 45)))⟩
 (.seq ⟨some 47, none, (.ofA (.mv (.tmp 46)))⟩
 (.seq ⟨some 48, some (47, true), (.ofA (.mv (.tmp 11)))⟩
 (.seq ⟨some 49, some (47, true), (.ofA (.len (.tmp 48)))⟩
 (.seq ⟨some 50, some (47, true), (.ofA (.mv (.tmp 12)))⟩
 (.seq ⟨some 51, some (47, true), (.ofA (.len (.tmp 50)))⟩
 (.seq ⟨some 52, some (47, true), (.ofA (.bin .geq (.tmp 49) (.tmp 51)))⟩
 (.seq ⟨some 53, none, (.ofA (.pick (.tmp 47) (.tmp 52) (.cst (.v (.bool false)))))⟩
 (.seq ⟨some 54, none, (.ofA (.mv (.tmp 53)))⟩
 (.seq ⟨some 55, some (54, true), (.ofA (.mv (.tmp 9)))⟩
 (.seq ⟨some 56, some (54, true), (.ofA (.mv (.tmp 12)))⟩
 (.seq ⟨some 57, some (54, true), (.ofA (.mv (.tmp 8)))⟩
 (.seq ⟨some 58, some (54, true), (.call (.cst (.fn 37 [])) [(.tmp 55), (.tmp 56), (.tmp 57)])⟩
 (.seq ⟨some 59, some (54, true), (.ofA (.mv (.tmp 9)))⟩
 (.seq ⟨some 60, some (54, true), (.ofA (.mv (.tmp 10)))⟩
 (.seq ⟨some 61, some (54, true), (.ofA (.mv (.tmp 8)))⟩
 (.seq ⟨some 62, some (54, true), (.call (.cst (.fn 37 [])) [(.tmp 59), (.tmp 60), (.tmp 61)])⟩
 (.seq ⟨some 63, some (54, true), (.ofA (.bin .geq (.tmp 58) (.tmp 62)))⟩
 (.seq ⟨some 64, none, (.ofA (.pick (.tmp 54) (.tmp 63) (.cst (.v (.bool false)))))⟩
 (.seq ⟨some 65, none, (.ofA (.mv (.tmp 64)))⟩
 (.seq ⟨some 66, some (65, true), (.ofA (.mv (.tmp 9)))⟩
 (.seq ⟨some 67, some (65, true), (.ofA (.mv (.tmp 12)))⟩
 (.seq ⟨some 68, some (65, true), (.ofA (.mv (.tmp 8)))⟩
 (.seq ⟨some 69, some (65, true), (.call (.cst (.fn 37 [])) [(.tmp 66), (.tmp 67), (.tmp 68)])⟩
 (.seq ⟨some 70, some (65, true), (.ofA (.mv (.tmp 9)))⟩
 (.seq ⟨some 71, some (65, true), (.ofA (.mv (.tmp 11)))⟩
 (.seq ⟨some 72, some (65, true), (.ofA (.mv (.tmp 8)))⟩
 (.seq ⟨some 73, some (65, true), (.call (.cst (.fn 37 [])) [(.tmp 70), (.tmp 71), (.tmp 72)])⟩
 (.seq ⟨some 74, some (65, true), (.ofA (.bin .geq (.tmp 69) (.tmp 73)))⟩
 (.seq ⟨some 75, none, (.ofA (.pick (.tmp 65) (.tmp 74) (.cst (.v (.bool false)))))⟩
 (.seq ⟨some 76, none, (.ofA (.mv (.tmp 75)))⟩
 (.seq ⟨some 77, some (76, true), (.ofA (.mv (.tmp 9)))⟩
 (.seq ⟨some 78, some (76, true), (.ofA (.mv (.tmp 12)))⟩
 (.seq ⟨some 79, some (76, true), (.ofA (.mv (.tmp 8)))⟩
 (.seq ⟨some 80, some (76, true), (.call (.cst (.fn 37 [])) [(.tmp 77), (.tmp 78), (.tmp 79)])⟩
 (.seq ⟨some 81, some (76, true), (.ofA (.mv (.tmp 13)))⟩
 (.seq ⟨some 82, some (76, true), (.ofA (.bin .leq (.tmp 80) (.tmp 81)))⟩
 (.seq ⟨some 83, none, (.ofA (.pick (.tmp 76) (.tmp 82) (.cst (.v (.bool false)))))⟩
 (.seq ⟨some 84, none, (.ofA (.mv (.tmp 83)))⟩
 (.seq ⟨some 85, some (84, true), (.ofA (.mv (.tmp 9)))⟩
 (.seq ⟨some 86, some (84, true), (.ofA (.mv (.tmp 11)))⟩
 (.seq ⟨some 87, some (84, true), (.ofA (.mv (.tmp 8)))⟩
 (.seq ⟨some 88, some (84, true), (.call (.cst (.fn 37 [])) [(.tmp 85), (.tmp 86), (.tmp 87)])⟩
 (.seq ⟨some 89, some (84, true), (.ofA (.mv (.tmp 13)))⟩
 (.seq ⟨some 90, some (84, true), (.ofA (.bin .leq (.tmp 88) (.tmp 89)))⟩
 (.seq ⟨some 91, none, (.ofA (.pick (.tmp 84) (.tmp 90) (.cst (.v (.bool false)))))⟩
 (.seq ⟨some 92, none, (.ofA (.mv (.tmp 91)))⟩
 (.seq ⟨some 93, some (92, true), (.ofA (.mv (.tmp 9)))⟩
 (.seq ⟨some 94, some (92, true), (.ofA (.mv (.tmp 10)))⟩
 (.seq ⟨some 95, some (92, true), (.ofA (.mv (.tmp 8)))⟩
 (.seq ⟨some 96, some (92, true), (.call (.cst (.fn 37 [])) [(.tmp 93), (.tmp 94), (.tmp 95)])⟩
 (.seq ⟨some 97, some (92, true), (.ofA (.mv (.tmp 13)))⟩
 (.seq ⟨some 98, some (92, true), (.ofA (.bin .leq (.tmp 96) (.tmp 97)))⟩
 (.seq ⟨some 99, none, (.ofA (.pick (.tmp 92) (.tmp 98) (.cst (.v (.bool false)))))⟩
 (.seq ⟨some 6, none, (.ofA (.mv (.tmp 99)))⟩
 .done))))))))))))))))))))))))))))))))))))))))))))))))))))))))))))
 .ret))))))))
def r8 : List XR := [.tmp 6]
theorem fn8 : FnX Try.prog 8 [82, 68, 97, 118] 100 x8 r8 := ⟨_, Try.func8, by kernel_rfl, by kernel_rfl, by kernel_rfl, by kernel_rfl⟩
def l30 : List Ra.Rg := [⟨8, 0⟩, ⟨3, 0⟩, ⟨1, 1⟩]
theorem srt_id {L : List Int} (h : L.Pairwise (· ≤ ·)) : srt L = L := by
  unfold srt
  refine List.mergeSort_of_pairwise (h.imp fun {a b} hab => by simpa using hab)
theorem v1 : grantF l30 (idN l30.length) 6 4 = [0, 1] := by
  have e : (grF (cA l30 4) (idN l30.length) (room 6)).2 = [0, 1] := by decide
  unfold grantF
  rw [e]
  exact srt_id (by decide)
theorem v2 : mostF l30 6 4 = [1, 2] := by
  have e : (grF (cA l30 4) (isN (cA l30 4) (idN l30.length)) (room 6)).2 = [1, 2] := by decide
  unfold mostF grantF
  rw [e]
  exact srt_id (by decide)
theorem v3 : fullF l30 6 4 = [0, 1] := by kernel_rfl
theorem v4 : grantF [] (idN ([] : List Ra.Rg).length) 9 4 = [] := by
  have e : (grF (cA [] 4) (idN ([] : List Ra.Rg).length) (room 9)).2 = [] := rfl
  unfold grantF
  rw [e]
  exact srt_id List.Pairwise.nil
def c30 [Inp] : Trans := fun args m k => args = [] ∧ k (.v (.bool true)) m
def G30 [Inp] : List CEntry := [⟨35, true, c35⟩, ⟨36, true, c36⟩, ⟨32, true, c32⟩, ⟨62, true, c62⟩]
theorem s30 [Inp] : GOk Try.prog G30 := GOk.cons c35_ok (GOk.cons c36_ok (GOk.cons c32_ok (GOk.cons c62_ok (g0 _))))
theorem c30_ok [I : Inp] : Contract Try.prog 30 true c30 := by
  refine .plainArgs fn30 s30 _ fun args m k h => ?_
  obtain ⟨rfl, hk⟩ := h
  refine ⟨rfl, by simp, ?_⟩
  simp (maxSteps := 2000000) -implicitDefEqProofs only [↓x30, ↓r30, ↓G30, ↓i35, ↓i36, ↓i32, ↓a62, s_alt, s_alt20, s_alt2t, s_alt2f, ↓s_loopi, ↓v_pq, ↓PRE, POST, CORE, Nat.reduceDiv, Nat.reduceMod, Int.reduceLT, Int.reduceLE, Int.reduceToNat, Int.reduceAdd, ↓reduceIte, Nat.reduceEqDiff, Nat.reduceAdd, Nat.reduceMul, Nat.reduceSub, Nat.reduceLeDiff, Nat.reduceLT, reduceCtorEq, if_true, eq_self, forall_const, implies_true]
  have hr : ∀ t, rdG ([⟨true, [.v (.int .i64 8), .v (.int .i64 0), .v (.int .i64 3), .v (.int .i64 0), .v (.int .i64 1), .v (.int .i64 1)]⟩] ++ t) (.row 0 0 3 2) = some l30 := fun t => rfl
  refine useI_of (useFirst v1 hr (by decide) fun j1 m1 r1 g1 u1 => ?_)
  replace g1 := g1 (by simp)
  simp (maxSteps := 2000000) -implicitDefEqProofs only [↓v_kq, ↓G30, ↓i35, ↓i36, ↓i32, ↓a62, s_alt, s_alt20, s_alt2t, s_alt2f, ↓s_loopi, ↓v_pq, ↓PRE, POST, CORE, Nat.reduceDiv, Nat.reduceMod, Int.reduceLT, Int.reduceLE, Int.reduceToNat, Int.reduceAdd, ↓reduceIte, Nat.reduceEqDiff, Nat.reduceAdd, Nat.reduceMul, Nat.reduceSub, Nat.reduceLeDiff, Nat.reduceLT, reduceCtorEq, if_true, eq_self, forall_const, implies_true]
  refine useI_of (useMost v2 (u1.1 _ _ hr) (by decide) fun j2 m2 r2 g2 u2 => ?_)
  replace g2 := g2 (by simp)
  simp (maxSteps := 2000000) -implicitDefEqProofs only [↓v_kq, ↓G30, ↓i35, ↓i36, ↓i32, ↓a62, s_alt, s_alt20, s_alt2t, s_alt2f, ↓s_loopi, ↓v_pq, ↓PRE, POST, CORE, Nat.reduceDiv, Nat.reduceMod, Int.reduceLT, Int.reduceLE, Int.reduceToNat, Int.reduceAdd, ↓reduceIte, Nat.reduceEqDiff, Nat.reduceAdd, Nat.reduceMul, Nat.reduceSub, Nat.reduceLeDiff, Nat.reduceLT, reduceCtorEq, if_true, eq_self, forall_const, implies_true]
  refine useI_of (useFull v3 (u2.1 _ _ (u1.1 _ _ hr)) (by decide) fun j3 m3 r3 g3 u3 => ?_)
  replace g3 := g3 (by simp)
  have a0 := u3.2.2 _ _ (u2.2.2 _ _ (u1.2.2 0 _ rfl))
  have a1 := u3.2.2 _ _ (u2.2.2 _ _ g1)
  have a2 := u3.2.2 _ _ g2
  have t0 : totF 8 0 4 = 4 := by decide
  rw [iL_cons, iL_cons, iL_nil] at a1 a2 g3
  simp (maxSteps := 2000000) -implicitDefEqProofs only [↓v_kq, ↓G30, ↓i35, ↓i36, ↓i32, ↓a62, a0, a1, a2, g3, t0, List.length_cons, List.length_nil, rS_s, s_alt, s_alt20, s_alt2t, s_alt2f, ↓s_loopi, ↓v_pq, ↓PRE, POST, CORE, Nat.reduceDiv, Nat.reduceMod, Int.reduceLT, Int.reduceLE, Int.reduceToNat, Int.reduceAdd, ↓reduceIte, Nat.reduceEqDiff, Nat.reduceAdd, Nat.reduceMul, Nat.reduceSub, Nat.reduceLeDiff, Nat.reduceLT, reduceCtorEq, if_true, eq_self, forall_const, implies_true]
  simp only [beq_self_eq_true, if_true]
  refine useI_of (useFirst v4 (l := []) (fun t => rdG_nil) (by decide) fun j4 m4 r4 g4 u4 => ?_)
  rw [List.length_nil, rS_0]
  simp (maxSteps := 2000000) -implicitDefEqProofs only [↓v_kq, beq_self_eq_true, s_alt, s_alt20, s_alt2t, s_alt2f, ↓s_loopi, ↓v_pq, ↓PRE, POST, CORE, Nat.reduceDiv, Nat.reduceMod, Int.reduceLT, Int.reduceLE, Int.reduceToNat, Int.reduceAdd, ↓reduceIte, Nat.reduceEqDiff, Nat.reduceAdd, Nat.reduceMul, Nat.reduceSub, Nat.reduceLeDiff, Nat.reduceLT, reduceCtorEq, if_true, eq_self, forall_const, implies_true]
  exact hk
theorem i30 [Inp] {l : List SV} {m : Mem} {K : SV → Mem → Prop} : c30 l m K = @useI c30 l m ⟨K⟩ := Eq.trans rfl rfl
def c8 [Inp] : Trans := fun args m k => ∃ (p : Option Addr) (c : Nat) (l : List Ra.Rg) (b n : Int), args = [.v (.slice p l.length c), .v (.int .u8 b), .v (.int .u8 n)] ∧ inpL p (l.length * 2) = some (rowV gV l) ∧ (0 ≤ b ∧ b ≤ 255) ∧ (0 ≤ n ∧ n ≤ 255) ∧ k (.v (.bool true)) m
def G8 [Inp] : List CEntry := [⟨30, true, c30⟩, ⟨34, true, c34⟩, ⟨35, true, c35⟩, ⟨36, true, c36⟩, ⟨32, true, c32⟩, ⟨37, true, c37⟩]
theorem s8 [Inp] : GOk Try.prog G8 := GOk.cons c30_ok (GOk.cons c34_ok (GOk.cons c35_ok (GOk.cons c36_ok (GOk.cons c32_ok (GOk.cons c37_ok (g0 _))))))
theorem nodup_len : ∀ (n : Nat) (L : List Int), L.Nodup → (∀ i ∈ L, 0 ≤ i ∧ i < (n : Int)) → L.length ≤ n
  | 0, L, _, h => by
    cases L with
    | nil => simp
    | cons x L => have := h x (by simp); omega
  | n + 1, L, hn, h => by
    by_cases hm : (n : Int) ∈ L
    · have h1 := nodup_len n (L.erase n) (hn.erase _) (fun i hi => by
        have h2 := h i (List.mem_of_mem_erase hi)
        have h3 : i ≠ n := fun e => by rw [e] at hi; exact hn.not_mem_erase hi
        omega)
      rw [List.length_erase_of_mem hm] at h1
      omega
    · have h1 := nodup_len n L hn (fun i hi => by
        have h2 := h i hi
        have h3 : i ≠ n := fun e => hm (e ▸ hi)
        omega)
      omega
theorem c8_ok [I : Inp] : Contract Try.prog 8 true c8 := by
  refine .plain0 fn8 (G := fun J => @G8 J) (fun J => @s8 J) _ fun args m k h => ?_
  obtain ⟨p, c, l, b, n, rfl, hin, hb, hn, hk⟩ := h
  refine ⟨[], [], [.v (.slice p l.length c), .v (.int .u8 b), .v (.int .u8 n)], by simp, trivial, by simp, LeL_plain _ rfl, by simp, fun J hK hI => ?_⟩
  replace hin := hI _ _ _ hin
  simp (maxSteps := 2000000) -implicitDefEqProofs only [↓x8, ↓r8, ↓G8, ↓i30, s_alt, s_alt20, s_alt2t, s_alt2f, ↓s_loopi, ↓v_pq, ↓PRE, POST, CORE, Nat.reduceDiv, Nat.reduceMod, Int.reduceLT, Int.reduceLE, Int.reduceToNat, Int.reduceAdd, ↓reduceIte, Nat.reduceEqDiff, Nat.reduceAdd, Nat.reduceMul, Nat.reduceSub, Nat.reduceLeDiff, Nat.reduceLT, reduceCtorEq, if_true, eq_self, forall_const, implies_true]
  refine useI_of ⟨rfl, ?_⟩
  by_cases hl : (12 : Int) < (l.length : Int)
  · simp (maxSteps := 2000000) -implicitDefEqProofs only [↓v_kq, hl, s_alt, s_alt20, s_alt2t, s_alt2f, ↓s_loopi, ↓v_pq, ↓PRE, POST, CORE, Nat.reduceDiv, Nat.reduceMod, Int.reduceLT, Int.reduceLE, Int.reduceToNat, Int.reduceAdd, ↓reduceIte, Nat.reduceEqDiff, Nat.reduceAdd, Nat.reduceMul, Nat.reduceSub, Nat.reduceLeDiff, Nat.reduceLT, reduceCtorEq, if_true, eq_self, forall_const, implies_true]
    exact hk
  have hl12 : l.length ≤ 12 := by omega
  simp (maxSteps := 2000000) -implicitDefEqProofs only [↓v_kq, ↓G8, hl, ↓i34, ↓i35, ↓i36, ↓i32, ↓i37, s_alt, s_alt20, s_alt2t, s_alt2f, ↓s_loopi, ↓v_pq, ↓PRE, POST, CORE, Nat.reduceDiv, Nat.reduceMod, Int.reduceLT, Int.reduceLE, Int.reduceToNat, Int.reduceAdd, ↓reduceIte, Nat.reduceEqDiff, Nat.reduceAdd, Nat.reduceMul, Nat.reduceSub, Nat.reduceLeDiff, Nat.reduceLT, reduceCtorEq, if_true, eq_self, forall_const, implies_true]
  refine ⟨by omega, by omega, useI_of (useWish (RdE_v hin) (by omega) fun j1 m1 r1 u1 => ?_)⟩
  simp (maxSteps := 2000000) -implicitDefEqProofs only [↓v_kq, ↓G8, ↓i34, ↓i35, ↓i36, ↓i32, ↓i37, s_alt, s_alt20, s_alt2t, s_alt2f, ↓s_loopi, ↓v_pq, ↓PRE, POST, CORE, Nat.reduceDiv, Nat.reduceMod, Int.reduceLT, Int.reduceLE, Int.reduceToNat, Int.reduceAdd, ↓reduceIte, Nat.reduceEqDiff, Nat.reduceAdd, Nat.reduceMul, Nat.reduceSub, Nat.reduceLeDiff, Nat.reduceLT, reduceCtorEq, if_true, eq_self, forall_const, implies_true]
  have hB : 0 ≤ IntKind.i64.wrap (b.tmod 70) := by
    rw [Int.tmod_eq_emod_of_nonneg hb.1, Sz.w_64 (by omega) (by omega)]
    omega
  generalize IntKind.i64.wrap (b.tmod 70) = B at hB ⊢
  generalize IntKind.i64.wrap (2 + IntKind.i64.wrap (n.tmod 15)) = P
  have fF := first_Fe (l := l) (n := P) hB
  have fM := most_Fe (l := l) (n := P) hB
  have fX := full_Fe (l := l) (n := P) hl12 hB
  have q1 := most_max fF
  have q2 := most_max fX
  have q3 := full_max hl12 hB fF
  have q4 := full_max hl12 hB fM
  have hroom : (if (64 : Int) < B then (64 : Int) else B) = room B := rfl
  have lenOf : ∀ {L : List Int}, Fe l P (room B) L → L.length ≤ 1000 := fun {L} h => by
    have := nodup_len l.length L h.1 h.2.1
    omega
  have nF := lenOf fF
  have nM := lenOf fM
  have nX := lenOf fX
  refine useI_of (useFirst rfl (RdE_v hin) (by omega) fun j2 m2 r2 _ u2 => ?_)
  generalize grantF l (idN l.length) B P = F at *
  simp (maxSteps := 2000000) -implicitDefEqProofs only [↓v_kq, ↓G8, ↓i34, ↓i35, ↓i36, ↓i32, ↓i37, s_alt, s_alt20, s_alt2t, s_alt2f, ↓s_loopi, ↓v_pq, ↓PRE, POST, CORE, Nat.reduceDiv, Nat.reduceMod, Int.reduceLT, Int.reduceLE, Int.reduceToNat, Int.reduceAdd, ↓reduceIte, Nat.reduceEqDiff, Nat.reduceAdd, Nat.reduceMul, Nat.reduceSub, Nat.reduceLeDiff, Nat.reduceLT, reduceCtorEq, if_true, eq_self, forall_const, implies_true]
  refine useI_of (useMost rfl (RdE_v hin) (by omega) fun j3 m3 r3 _ u3 => ?_)
  generalize mostF l B P = M at *
  simp (maxSteps := 2000000) -implicitDefEqProofs only [↓v_kq, ↓G8, ↓i34, ↓i35, ↓i36, ↓i32, ↓i37, s_alt, s_alt20, s_alt2t, s_alt2f, ↓s_loopi, ↓v_pq, ↓PRE, POST, CORE, Nat.reduceDiv, Nat.reduceMod, Int.reduceLT, Int.reduceLE, Int.reduceToNat, Int.reduceAdd, ↓reduceIte, Nat.reduceEqDiff, Nat.reduceAdd, Nat.reduceMul, Nat.reduceSub, Nat.reduceLeDiff, Nat.reduceLT, reduceCtorEq, if_true, eq_self, forall_const, implies_true]
  refine useI_of (useFull rfl (RdE_v hin) (by omega) fun j4 m4 r4 _ u4 => ?_)
  generalize fullF l B P = X at *
  have d1 := u4.1 _ _ (u3.1 _ _ (u2.1 _ _ r1))
  have d2 := u4.2.1 _ _ (u3.2.1 _ _ r2)
  have d3 := u4.2.1 _ _ r3
  have e1 : (F.length : Int) ≤ (M.length : Int) := by omega
  have e2 : (X.length : Int) ≤ (M.length : Int) := by omega
  simp (maxSteps := 2000000) -implicitDefEqProofs only [↓v_kq, ↓G8, ↓i34, ↓i35, ↓i36, ↓i32, ↓i37, Rc.s_len, ge_iff_le, e1, e2, hroom, s_alt, s_alt20, s_alt2t, s_alt2f, ↓s_loopi, ↓v_pq, ↓PRE, POST, CORE, Nat.reduceDiv, Nat.reduceMod, Int.reduceLT, Int.reduceLE, Int.reduceToNat, Int.reduceAdd, ↓reduceIte, Nat.reduceEqDiff, Nat.reduceAdd, Nat.reduceMul, Nat.reduceSub, Nat.reduceLeDiff, Nat.reduceLT, reduceCtorEq, if_true, eq_self, forall_const, implies_true]
  refine useI_of (useSum d1 r4 (by omega) nX fX.2.1 ?_)
  simp (maxSteps := 2000000) -implicitDefEqProofs only [↓v_kq, ↓G8, ↓i37, s_alt, s_alt20, s_alt2t, s_alt2f, ↓s_loopi, ↓v_pq, ↓PRE, POST, CORE, Nat.reduceDiv, Nat.reduceMod, Int.reduceLT, Int.reduceLE, Int.reduceToNat, Int.reduceAdd, ↓reduceIte, Nat.reduceEqDiff, Nat.reduceAdd, Nat.reduceMul, Nat.reduceSub, Nat.reduceLeDiff, Nat.reduceLT, reduceCtorEq, if_true, eq_self, forall_const, implies_true]
  refine useI_of (useSum d1 d2 (by omega) nF fF.2.1 ?_)
  simp (maxSteps := 2000000) -implicitDefEqProofs only [↓v_kq, ↓G8, ↓i37, q3, ge_iff_le, s_alt, s_alt20, s_alt2t, s_alt2f, ↓s_loopi, ↓v_pq, ↓PRE, POST, CORE, Nat.reduceDiv, Nat.reduceMod, Int.reduceLT, Int.reduceLE, Int.reduceToNat, Int.reduceAdd, ↓reduceIte, Nat.reduceEqDiff, Nat.reduceAdd, Nat.reduceMul, Nat.reduceSub, Nat.reduceLeDiff, Nat.reduceLT, reduceCtorEq, if_true, eq_self, forall_const, implies_true]
  refine useI_of (useSum d1 r4 (by omega) nX fX.2.1 ?_)
  simp (maxSteps := 2000000) -implicitDefEqProofs only [↓v_kq, ↓G8, ↓i37, s_alt, s_alt20, s_alt2t, s_alt2f, ↓s_loopi, ↓v_pq, ↓PRE, POST, CORE, Nat.reduceDiv, Nat.reduceMod, Int.reduceLT, Int.reduceLE, Int.reduceToNat, Int.reduceAdd, ↓reduceIte, Nat.reduceEqDiff, Nat.reduceAdd, Nat.reduceMul, Nat.reduceSub, Nat.reduceLeDiff, Nat.reduceLT, reduceCtorEq, if_true, eq_self, forall_const, implies_true]
  refine useI_of (useSum d1 d3 (by omega) nM fM.2.1 ?_)
  simp (maxSteps := 2000000) -implicitDefEqProofs only [↓v_kq, ↓G8, ↓i37, q4, ge_iff_le, s_alt, s_alt20, s_alt2t, s_alt2f, ↓s_loopi, ↓v_pq, ↓PRE, POST, CORE, Nat.reduceDiv, Nat.reduceMod, Int.reduceLT, Int.reduceLE, Int.reduceToNat, Int.reduceAdd, ↓reduceIte, Nat.reduceEqDiff, Nat.reduceAdd, Nat.reduceMul, Nat.reduceSub, Nat.reduceLeDiff, Nat.reduceLT, reduceCtorEq, if_true, eq_self, forall_const, implies_true]
  refine useI_of (useSum d1 r4 (by omega) nX fX.2.1 ?_)
  simp (maxSteps := 2000000) -implicitDefEqProofs only [↓v_kq, ↓G8, ↓i37, fX.2.2.2, s_alt, s_alt20, s_alt2t, s_alt2f, ↓s_loopi, ↓v_pq, ↓PRE, POST, CORE, Nat.reduceDiv, Nat.reduceMod, Int.reduceLT, Int.reduceLE, Int.reduceToNat, Int.reduceAdd, ↓reduceIte, Nat.reduceEqDiff, Nat.reduceAdd, Nat.reduceMul, Nat.reduceSub, Nat.reduceLeDiff, Nat.reduceLT, reduceCtorEq, if_true, eq_self, forall_const, implies_true]
  refine useI_of (useSum d1 d3 (by omega) nM fM.2.1 ?_)
  simp (maxSteps := 2000000) -implicitDefEqProofs only [↓v_kq, ↓G8, ↓i37, fM.2.2.2, s_alt, s_alt20, s_alt2t, s_alt2f, ↓s_loopi, ↓v_pq, ↓PRE, POST, CORE, Nat.reduceDiv, Nat.reduceMod, Int.reduceLT, Int.reduceLE, Int.reduceToNat, Int.reduceAdd, ↓reduceIte, Nat.reduceEqDiff, Nat.reduceAdd, Nat.reduceMul, Nat.reduceSub, Nat.reduceLeDiff, Nat.reduceLT, reduceCtorEq, if_true, eq_self, forall_const, implies_true]
  refine useI_of (useSum d1 d2 (by omega) nF fF.2.1 ?_)
  simp (maxSteps := 2000000) -implicitDefEqProofs only [↓v_kq, ↓G8, ↓i37, fF.2.2.2, s_alt, s_alt20, s_alt2t, s_alt2f, ↓s_loopi, ↓v_pq, ↓PRE, POST, CORE, Nat.reduceDiv, Nat.reduceMod, Int.reduceLT, Int.reduceLE, Int.reduceToNat, Int.reduceAdd, ↓reduceIte, Nat.reduceEqDiff, Nat.reduceAdd, Nat.reduceMul, Nat.reduceSub, Nat.reduceLeDiff, Nat.reduceLT, reduceCtorEq, if_true, eq_self, forall_const, implies_true]
  exact hk
end Qu
end Go.Proofs.Ytcejgadbpahbmaa
end
section
namespace Go.Proofs.Ytcejgadbpahbmaa
open Go.ChangeShapes Go.WideShapes Go.ChangeAt Go.RowKit Go.Deep
theorem add_plain' (g o j : Nat) : (⟨g, o, none⟩ : Addr).add j = ⟨g, o + j, none⟩ := by unfold Addr.add; split <;> simp_all
inductive Sh where
  | nil
  | int (k : IntKind) (r : Sh)
  | bool (r : Sh)
  | str (r : Sh)
  | sl (e : Sh) (r : Sh)
def Sh.len : Sh → Nat
  | .nil => 0
  | .int _ r | .bool r | .str r | .sl _ r => r.len + 1
def Sh.app : Sh → Sh → Sh
  | .nil, b => b
  | .int k r, b => .int k (r.app b)
  | .bool r, b => .bool (r.app b)
  | .str r, b => .str (r.app b)
  | .sl e r, b => .sl e (r.app b)
def Sh.rep (a : Sh) : Nat → Sh
  | 0 => .nil
  | n + 1 => a.app (a.rep n)
def SlFits (w : World) (v : Value) (sz : Nat) (F : List Value → Prop) : Prop :=
  ∃ A n c, v = .slice A n c ∧ n ≤ c ∧ c ≤ maxLen ∧ (A = none → c = 0) ∧
    ∀ a, A = some a → ∀ i, i < n → ∃ cs : List Value, cs.length = sz ∧ (∀ j u, cs[j]? = some u → w.cell? ((a.add (i * sz)).add j) = some u) ∧ F cs
def Sh.fits (w : World) : Sh → List Value → Prop
  | .nil, cs => cs = []
  | .int k r, cs => ∃ n cs', cs = .int k n :: cs' ∧ (Lit.int k n).wf = true ∧ r.fits w cs'
  | .bool r, cs => ∃ b cs', cs = .bool b :: cs' ∧ r.fits w cs'
  | .str r, cs => ∃ s cs', cs = .string s :: cs' ∧ s.size ≤ maxLen ∧ r.fits w cs'
  | .sl e r, cs => ∃ v cs', cs = v :: cs' ∧ SlFits w v e.len (e.fits w) ∧ r.fits w cs'
theorem Sh.fits_len {w : World} : ∀ {s : Sh} {cs : List Value}, s.fits w cs → cs.length = s.len
  | .nil, cs, h => by simp only [Sh.fits] at h; simp [h, Sh.len]
  | .int k r, cs, h => by obtain ⟨n, cs', rfl, _, h'⟩ := h; simp [Sh.len, Sh.fits_len h']
  | .bool r, cs, h => by obtain ⟨n, cs', rfl, h'⟩ := h; simp [Sh.len, Sh.fits_len h']
  | .str r, cs, h => by obtain ⟨n, cs', rfl, _, h'⟩ := h; simp [Sh.len, Sh.fits_len h']
  | .sl e r, cs, h => by obtain ⟨n, cs', rfl, _, h'⟩ := h; simp [Sh.len, Sh.fits_len h']
theorem Sh.fits_app {w : World} {b : Sh} {ds : List Value} (hb : b.fits w ds) : ∀ {a : Sh} {cs : List Value}, a.fits w cs → (a.app b).fits w (cs ++ ds)
  | .nil, cs, h => by simp only [Sh.fits] at h; subst h; simpa [Sh.app] using hb
  | .int k r, cs, h => by obtain ⟨n, cs', rfl, h1, h'⟩ := h; exact ⟨n, cs' ++ ds, rfl, h1, Sh.fits_app hb h'⟩
  | .bool r, cs, h => by obtain ⟨n, cs', rfl, h'⟩ := h; exact ⟨n, cs' ++ ds, rfl, Sh.fits_app hb h'⟩
  | .str r, cs, h => by obtain ⟨n, cs', rfl, h1, h'⟩ := h; exact ⟨n, cs' ++ ds, rfl, h1, Sh.fits_app hb h'⟩
  | .sl e r, cs, h => by obtain ⟨n, cs', rfl, h1, h'⟩ := h; exact ⟨n, cs' ++ ds, rfl, h1, Sh.fits_app hb h'⟩
theorem Sh.app_len : ∀ {a b : Sh}, (a.app b).len = a.len + b.len
  | .nil, b => by simp [Sh.app, Sh.len]
  | .int k r, b => by simp [Sh.app, Sh.len, Sh.app_len (a := r)]; omega
  | .bool r, b => by simp [Sh.app, Sh.len, Sh.app_len (a := r)]; omega
  | .str r, b => by simp [Sh.app, Sh.len, Sh.app_len (a := r)]; omega
  | .sl e r, b => by simp [Sh.app, Sh.len, Sh.app_len (a := r)]; omega
section
variable (P : Program)
end
section
variable {P : Program} {H : Type} {enc : TypeId × Value → H} {w : World} {base : Nat} {spare : Nat → Bool} {held : Bool}
end
theorem sl_open {w : World} {v : Value} {sz : Nat} {F : List Value → Prop} (h : SlFits w v sz F) (hsz : 0 < sz) :
    ∃ A n c, v = .slice A n c ∧ n ≤ c ∧ c ≤ maxLen ∧ (n = 0 ∨ ∃ g o, A = some ⟨g, o, none⟩ ∧ ∀ i, i < n → ∃ cs : List Value, cs.length = sz ∧ (∀ j u, cs[j]? = some u → w.cell? ⟨g, o + i * sz + j, none⟩ = some u) ∧ F cs) := by
  obtain ⟨A, n, c, rfl, hn, hc, hA, hcell⟩ := h
  refine ⟨A, n, c, rfl, hn, hc, ?_⟩
  rcases Nat.eq_zero_or_pos n with h0 | h0
  · exact .inl h0
  · right
    cases A with
    | none => have := hA rfl; omega
    | some a =>
      obtain ⟨g, o, spot⟩ := a
      obtain ⟨cs, hl, hg, _⟩ := hcell _ rfl 0 h0
      obtain ⟨x, hx⟩ : ∃ x, cs[0]? = some x := ⟨_, List.getElem?_eq_getElem (by omega)⟩
      have hc0 := hg 0 x hx
      have hspot : spot = Option.none := by simpa [Addr.add] using World.cell?_spot hc0
      subst hspot
      refine ⟨g, o, rfl, fun i hi => ?_⟩
      obtain ⟨cs, hl, hg, hF⟩ := hcell _ rfl i hi
      refine ⟨cs, hl, fun j u hj => ?_, hF⟩
      have := hg j u hj
      rwa [add_plain', add_plain'] at this
theorem list_of {α : Type} {p : Nat → α → Prop} : ∀ (n : Nat), (∀ i, i < n → ∃ x, p i x) → ∃ l : List α, l.length = n ∧ ∀ i x, l[i]? = some x → p i x
  | 0, _ => ⟨[], rfl, fun i x h => by simp at h⟩
  | n + 1, h => by
    obtain ⟨l, hl, hp⟩ := list_of n (fun i hi => h i (by omega))
    obtain ⟨x, hx⟩ := h n (by omega)
    refine ⟨l ++ [x], by simp [hl], fun i y hy => ?_⟩
    rcases Nat.lt_or_ge i n with hi | hi
    · rw [List.getElem?_append_left (by omega)] at hy; exact hp i y hy
    · rw [List.getElem?_append_right (by omega)] at hy
      have : i - l.length = 0 := by
        rcases Nat.eq_zero_or_pos (i - l.length) with h | h
        · exact h
        · rw [List.getElem?_eq_none (by simp; omega)] at hy; cases hy
      rw [this] at hy
      simp at hy
      subst hy
      have : i = n := by omega
      subst this; exact hx
theorem wf_bounds_u8 {n : Int} (h : (Lit.int .u8 n).wf = true) : 0 ≤ n ∧ n ≤ 255 := by
  simpa [Lit.wf, IntKind.min, IntKind.max, IntKind.signed, IntKind.bits] using h
end Go.Proofs.Ytcejgadbpahbmaa
end
section
namespace Go.Proofs.Ytcejgadbpahbmaa.Sz
open Go.RowKit
theorem rowV_get {α : Type} {cs : α → List Value} {z : Nat} (hz : ∀ x, (cs x).length = z) (h0 : 0 < z) : ∀ {l : List α} {j : Nat} {u : Value}, (rowV cs l)[j]? = some u → ∃ x, l[j / z]? = some x ∧ (cs x)[j % z]? = some u
  | [], j, u, h => by simp [rowV] at h
  | x :: l, j, u, h => by
    have e : rowV cs (x :: l) = cs x ++ rowV cs l := rfl
    rw [e] at h
    by_cases hj : j < z
    · rw [List.getElem?_append_left (by rw [hz]; exact hj)] at h
      exact ⟨x, by rw [Nat.div_eq_of_lt hj]; rfl, by rw [Nat.mod_eq_of_lt hj]; exact h⟩
    · rw [List.getElem?_append_right (by rw [hz]; omega), hz] at h
      obtain ⟨y, h1, h2⟩ := rowV_get hz h0 h
      refine ⟨y, ?_, ?_⟩
      · rw [Nat.div_eq_sub_div h0 (by omega)]
        simpa using h1
      · rw [Nat.mod_eq_sub_mod (by omega)]; exact h2
theorem rows_of_sl {α : Type} {cs : α → List Value} {z : Nat} (hz : ∀ x, (cs x).length = z) (h0 : 0 < z) {W : World} {v : Value} {F : List Value → Prop} {Q : α → Prop} (h : SlFits W v z F) (hF : ∀ l, F l → ∃ x, cs x = l ∧ Q x) :
    ∃ A n c l, v = .slice A n c ∧ n ≤ c ∧ c ≤ 9223372036854775807 ∧ l.length = n ∧ (∀ x ∈ l, Q x) ∧ @inpL (inpOf W) A (n * z) = some (rowV cs l) := by
  obtain ⟨A, n, c, rfl, hn, hc, hh⟩ := sl_open h h0
  have hc' : c ≤ 9223372036854775807 := by simpa [maxLen] using hc
  rcases hh with rfl | ⟨g, o, rfl, hcell⟩
  · exact ⟨A, 0, c, [], rfl, hn, hc', rfl, by simp, by simp [inpL, rowV]⟩
  · obtain ⟨l, hl, hp⟩ := list_of (p := fun i x => Q x ∧ ∀ j u, (cs x)[j]? = some u → W.cell? ⟨g, o + i * z + j, none⟩ = some u) n (fun i hi => by
      obtain ⟨us, _, h1, h2⟩ := hcell i hi
      obtain ⟨x, rfl, hq⟩ := hF us h2
      exact ⟨x, hq, h1⟩)
    refine ⟨_, n, c, l, rfl, hn, hc', hl, fun x hx => ?_, inpL_of (I := inpOf W) (by rw [rowV_len hz, hl]) fun _ => ⟨_, rfl, rfl, fun j u hj => ?_⟩⟩
    · obtain ⟨i, hi⟩ := List.getElem?_of_mem hx
      exact (hp i x hi).1
    · obtain ⟨x, h1, h2⟩ := rowV_get hz h0 hj
      have := (hp _ x h1).2 _ u h2
      show W.cell? ((⟨g, o, none⟩ : Addr).add j) = some u
      rw [Addr.add_lit]
      have e : o + j / z * z + j % z = o + j := by rw [Nat.add_assoc, Nat.mul_comm, Nat.div_add_mod]
      rwa [e] at this
end Go.Proofs.Ytcejgadbpahbmaa.Sz
end
section
namespace Go.Proofs.Ytcejgadbpahbmaa
open Go.ChangeShapes Go.WideShapes Go.ChangeAt Go.RowKit Go.Deep
inductive ShR where
  | nil
  | int (k : IntKind) (r : ShR)
  | bool (r : ShR)
  | str (r : ShR)
  | sl (b : Nat) (e : ShR) (r : ShR)
def ShR.len : ShR → Nat
  | .nil => 0
  | .int _ r | .bool r | .str r | .sl _ _ r => r.len + 1
def ShR.app : ShR → ShR → ShR
  | .nil, b => b
  | .int k r, b => .int k (r.app b)
  | .bool r, b => .bool (r.app b)
  | .str r, b => .str (r.app b)
  | .sl q e r, b => .sl q e (r.app b)
def ShR.rep (a : ShR) : Nat → ShR
  | 0 => .nil
  | n + 1 => a.app (a.rep n)
def SlFitsR (w : World) (v : Value) (sz b : Nat) (F : List Value → Prop) : Prop :=
  SlFits w v sz F ∧ ∀ A n c, v = .slice A n c → n * b ≤ reachBytes
def ShR.fits (w : World) : ShR → List Value → Prop
  | .nil, cs => cs = []
  | .int k r, cs => ∃ n cs', cs = .int k n :: cs' ∧ (Lit.int k n).wf = true ∧ r.fits w cs'
  | .bool r, cs => ∃ b cs', cs = .bool b :: cs' ∧ r.fits w cs'
  | .str r, cs => ∃ s cs', cs = .string s :: cs' ∧ s.size ≤ reachBytes ∧ r.fits w cs'
  | .sl q e r, cs => ∃ v cs', cs = v :: cs' ∧ SlFitsR w v e.len q (e.fits w) ∧ r.fits w cs'
theorem ShR.fits_len {w : World} : ∀ {s : ShR} {cs : List Value}, s.fits w cs → cs.length = s.len
  | .nil, cs, h => by simp only [ShR.fits] at h; simp [h, ShR.len]
  | .int k r, cs, h => by obtain ⟨n, cs', rfl, _, h'⟩ := h; simp [ShR.len, ShR.fits_len h']
  | .bool r, cs, h => by obtain ⟨n, cs', rfl, h'⟩ := h; simp [ShR.len, ShR.fits_len h']
  | .str r, cs, h => by obtain ⟨n, cs', rfl, _, h'⟩ := h; simp [ShR.len, ShR.fits_len h']
  | .sl q e r, cs, h => by obtain ⟨n, cs', rfl, _, h'⟩ := h; simp [ShR.len, ShR.fits_len h']
theorem ShR.fits_app {w : World} {b : ShR} {ds : List Value} (hb : b.fits w ds) : ∀ {a : ShR} {cs : List Value}, a.fits w cs → (a.app b).fits w (cs ++ ds)
  | .nil, cs, h => by simp only [ShR.fits] at h; subst h; simpa [ShR.app] using hb
  | .int k r, cs, h => by obtain ⟨n, cs', rfl, h1, h'⟩ := h; exact ⟨n, cs' ++ ds, rfl, h1, ShR.fits_app hb h'⟩
  | .bool r, cs, h => by obtain ⟨n, cs', rfl, h'⟩ := h; exact ⟨n, cs' ++ ds, rfl, ShR.fits_app hb h'⟩
  | .str r, cs, h => by obtain ⟨n, cs', rfl, h1, h'⟩ := h; exact ⟨n, cs' ++ ds, rfl, h1, ShR.fits_app hb h'⟩
  | .sl q e r, cs, h => by obtain ⟨n, cs', rfl, h1, h'⟩ := h; exact ⟨n, cs' ++ ds, rfl, h1, ShR.fits_app hb h'⟩
theorem ShR.app_len : ∀ {a b : ShR}, (a.app b).len = a.len + b.len
  | .nil, b => by simp [ShR.app, ShR.len]
  | .int k r, b => by simp [ShR.app, ShR.len, ShR.app_len (a := r)]; omega
  | .bool r, b => by simp [ShR.app, ShR.len, ShR.app_len (a := r)]; omega
  | .str r, b => by simp [ShR.app, ShR.len, ShR.app_len (a := r)]; omega
  | .sl q e r, b => by simp [ShR.app, ShR.len, ShR.app_len (a := r)]; omega
section
variable (P : Program)
def shFieldsR (one : TypeId → Option ShR) : Nat → List Field → Option ShR
  | _, [] => some .nil
  | off, f :: fs => (one f.type).bind fun a => if f.offset = off ∧ P.cellsOf f.type = a.len then (shFieldsR one (off + a.len) fs).map (a.app ·) else none
def shOfR : Nat → TypeId → Option ShR
  | 0, _ => none
  | n + 1, t => match P.underlying t with
    | some .bool => some (.bool .nil)
    | some (.int k) => some (.int k .nil)
    | some .string => some (.str .nil)
    | some (.slice e) => (shOfR n e).bind fun a => if P.cellsOf e = a.len then some (.sl (P.bytesOf e) a .nil) else none
    | some (.struct fs) => (shFieldsR P (shOfR n) 0 fs.toList).bind fun a => if P.cellsOf t = a.len then some a else none
    | some (.array k e) => (shOfR n e).bind fun a => if P.cellsOf e = a.len ∧ P.cellsOf t = k * a.len then some (a.rep k) else none
    | _ => none
end
section
variable {P : Program} {H : Type} {enc : TypeId × Value → H} {w : World} {base : Nat} {spare : Nat → Bool} {held : Bool}
theorem weightsAll_mem {e : TypeId} : ∀ {l : List (DataW H)} {d : DataW H}, d ∈ l → ∀ {q : Nat}, q ∈ d.weights P e → q ∈ DataW.weightsAll P e l
  | [], d, h, q, hq => by simp at h
  | x :: l, d, h, q, hq => by
    simp only [DataW.weightsAll, List.mem_append]
    rcases List.mem_cons.1 h with rfl | h
    · exact .inl hq
    · exact .inr (weightsAll_mem h hq)
theorem fieldsR_fit {one : TypeId → Option ShR} {m : Nat} {cs : List Value} (ih : ∀ t sh ds x, one t = some sh → DataW.trod enc P w base spare held m t ds = some x → (∀ q ∈ x.1.weights P t, q ≤ reachBytes) → sh.fits w ds) :
    ∀ (fs : List Field) (off : Nat) (sh : ShR), shFieldsR P one off fs = some sh → (∀ f ∈ fs, ∃ y, DataW.trod enc P w base spare held m f.type ((cs.drop f.offset).take (P.cellsOf f.type)) = some y ∧ (∀ q ∈ y.1.weights P f.type, q ≤ reachBytes)) →
      cs.length = off + sh.len → sh.fits w (cs.drop off)
  | [], off, sh, h, _, hl => by
    simp only [shFieldsR, Option.some.injEq] at h
    subst h
    simp only [ShR.len, Nat.add_zero] at hl
    show cs.drop off = []
    rw [List.drop_eq_nil_iff]; omega
  | f :: fs, off, sh, h, hf, hl => by
    simp only [shFieldsR, Option.bind_eq_some_iff] at h
    obtain ⟨a, ha, h⟩ := h
    split at h
    · rename_i hc
      obtain ⟨ho, hk⟩ := hc
      simp only [Option.map_eq_some_iff] at h
      obtain ⟨b, hb, rfl⟩ := h
      rw [ShR.app_len] at hl
      obtain ⟨y, hy, hyw⟩ := hf f (by simp)
      rw [ho, hk] at hy
      have h1 := ih _ _ _ _ ha hy hyw
      have h2 := fieldsR_fit ih fs (off + a.len) b hb (fun g hg => hf g (by simp [hg])) (by omega)
      have e : cs.drop off = (cs.drop off).take a.len ++ cs.drop (off + a.len) := by
        rw [← List.drop_drop, List.take_append_drop]
      rw [e]
      exact ShR.fits_app h2 h1
    · cases h
theorem arrayR_fit {m : Nat} {cs : List Value} {e : TypeId} {a : ShR} (ih : ∀ ds x, DataW.trod enc P w base spare held m e ds = some x → (∀ q ∈ x.1.weights P e, q ≤ reachBytes) → a.fits w ds) :
    ∀ (k i : Nat), (∀ j, i ≤ j → j < i + k → ∃ y, DataW.trod enc P w base spare held m e ((cs.drop (j * a.len)).take a.len) = some y ∧ (∀ q ∈ y.1.weights P e, q ≤ reachBytes)) → cs.length = (i + k) * a.len → (a.rep k).fits w (cs.drop (i * a.len))
  | 0, i, _, hl => by
    show cs.drop _ = []
    rw [List.drop_eq_nil_iff]; simp at hl; omega
  | k + 1, i, hf, hl => by
    obtain ⟨y, hy, hyw⟩ := hf i (Nat.le_refl _) (by omega)
    have h1 := ih _ _ hy hyw
    have h2 := arrayR_fit ih k (i + 1) (fun j h1 h2 => hf j (by omega) (by omega)) (by rw [hl]; congr 1; omega)
    have e : cs.drop (i * a.len) = (cs.drop (i * a.len)).take a.len ++ cs.drop ((i + 1) * a.len) := by
      rw [Nat.add_mul, Nat.one_mul, ← List.drop_drop, List.take_append_drop]
    rw [e]
    exact ShR.fits_app h2 h1
theorem fitsR_of_trod : ∀ (n : Nat) (t : TypeId) (sh : ShR) (fuel : Nat) (cs : List Value) (x : DataW H × List MemPlace), shOfR P n t = some sh → DataW.trod enc P w base spare held fuel t cs = some x → (∀ q ∈ x.1.weights P t, q ≤ reachBytes) → sh.fits w cs
  | 0, _, _, _, _, _, h, _, _ => by simp [shOfR] at h
  | n + 1, t, sh, fuel, cs, x, h, ht, hz => by
    unfold shOfR at h
    split at h
    · rename_i hu
      obtain ⟨b, rfl, _⟩ := DataW.trod_bool hu ht
      simp only [Option.some.injEq] at h; subst h
      exact ⟨b, [], rfl, rfl⟩
    · rename_i k hu
      obtain ⟨z, rfl, _, hw⟩ := DataW.trod_int hu ht
      simp only [Option.some.injEq] at h; subst h
      exact ⟨z, [], rfl, hw, rfl⟩
    · rename_i hu
      obtain ⟨z, rfl, rfl, hw⟩ := DataW.trod_string hu ht
      simp only [Option.some.injEq] at h; subst h
      have hz1 := hz z.data.toList.length (by simp [DataW.weights])
      exact ⟨z, [], rfl, by rw [Array.length_toList] at hz1; exact hz1, rfl⟩
    · rename_i e hu
      simp only [Option.bind_eq_some_iff] at h
      obtain ⟨a, ha, h⟩ := h
      split at h
      · rename_i hc
        simp only [Option.some.injEq] at h; subst h
        rcases open_slice hu ht with ⟨rfl, _⟩ | ⟨ad, len, cap, m, f, D, Pl, rfl, _, hl, hm, hmm, rfl, hi⟩
        · exact ⟨_, [], rfl, ⟨⟨Option.none, 0, 0, rfl, Nat.le_refl _, Nat.zero_le _, fun _ => rfl, fun a ha => by cases ha⟩, fun A n c hv => by cases hv; omega⟩, rfl⟩
        · have hzl : len * P.bytesOf e ≤ reachBytes := by
            have h1 := hz ((((List.range len).map D).length + ((List.range (m - len)).map fun j => D (len + j)).length) * P.bytesOf e) (by simp [DataW.weights, hu])
            refine Nat.le_trans (Nat.mul_le_mul_right _ ?_) h1
            simp
          refine ⟨_, [], rfl, ⟨⟨some ad, len, cap, rfl, hl, hm, ?_, fun a' ha' i hilt => ?_⟩, fun A n c hv => by cases hv; exact hzl⟩, rfl⟩
          · intro h; cases h
          simp only [Option.some.injEq] at ha'
          subst ha'
          have him : i < m := by rw [hmm]; split <;> omega
          obtain ⟨cs', hc', ht'⟩ := hi i him
          obtain ⟨_, hlen, hget⟩ := World.cells?_some hc'
          rw [hc] at hlen hget
          refine ⟨cs', hlen, fun j u hj => ?_, fitsR_of_trod n e a f cs' _ ha ht' fun q hq => hz q ?_⟩
          rotate_left
          · simp only [DataW.weights, hu, List.mem_cons, List.mem_append]
            exact .inr (.inl (weightsAll_mem (List.mem_map.2 ⟨i, by simpa using hilt, rfl⟩) hq))
          have hjl : j < cs'.length := (List.getElem?_eq_some_iff.1 hj).1
          rw [hget j (by omega)]; exact hj
      · cases h
    · rename_i fs hu
      simp only [Option.bind_eq_some_iff] at h
      obtain ⟨a, ha, h⟩ := h
      split at h
      · rename_i hc
        simp only [Option.some.injEq] at h; subst h
        obtain ⟨xs, m, _, rfl, hl, hxl, hf⟩ := DataW.trod_struct hu ht
        have := fieldsR_fit (cs := cs) (m := m) (enc := enc) (base := base) (spare := spare) (held := held) (w := w) (fun t sh ds x h1 h2 h3 => fitsR_of_trod n t sh m ds x h1 h2 h3) fs.toList 0 a ha (fun f hf' => ?_) (by omega)
        · simpa using this
        · obtain ⟨i, hi, hfi⟩ := List.getElem_of_mem hf'
          have hfi' : fs[i]? = some f := by rw [← hfi, Array.getElem_toList, Array.getElem?_eq_getElem]
          have h3 := hf i f hfi'
          have hlt : i < xs.length := by rw [hxl]; simpa using hi
          refine ⟨xs[i], by rw [h3]; exact List.getElem?_eq_getElem hlt, fun q hq => hz q ?_⟩
          simp only [DataW.weights, hu]
          exact DataW.weights_mem_each (j := i) (t := f.type) (d := xs[i].1) (by simp [hfi']) (by simp [hlt]) q hq
      · cases h
    · rename_i k e hu
      simp only [Option.bind_eq_some_iff] at h
      obtain ⟨a, ha, h⟩ := h
      split at h
      · rename_i hc
        obtain ⟨hc1, hc2⟩ := hc
        simp only [Option.some.injEq] at h; subst h
        obtain ⟨xs, m, _, rfl, hl, hxl, hf⟩ := DataW.trod_array hu ht
        rw [hc1] at hf
        have := arrayR_fit (cs := cs) (m := m) (enc := enc) (base := base) (spare := spare) (held := held) (w := w) (P := P) (fun ds x h2 h3 => fitsR_of_trod n e a m ds x ha h2 h3) k 0 (fun j _ hj => ?_) (by rw [hl, hc2, Nat.zero_add])
        · simpa using this
        · have hlt : j < xs.length := by omega
          refine ⟨xs[j], by rw [hf j (by omega)]; exact List.getElem?_eq_getElem hlt, fun q hq => hz q ?_⟩
          simp only [DataW.weights, hu]
          exact weightsAll_mem (List.mem_map.2 ⟨xs[j], List.getElem_mem _, rfl⟩) hq
      · cases h
    · cases h
theorem openR_any {t : TypeId} {v : Value} {d : DataW H} {p : List MemPlace} {n : Nat} {sh : ShR} (hs : shOfR P n t = some sh) (h : DataW.Trod enc P w base spare held t v d p) (hz : ∀ q ∈ d.weights P t, q ≤ reachBytes) : sh.fits w v.cells.toList := by
  obtain ⟨fuel, hf⟩ := h
  exact fitsR_of_trod n t sh fuel _ _ hs hf hz
theorem openR_sls {t e : TypeId} {v : Value} {d : DataW H} {p : List MemPlace} {n b : Nat} {r : Reach} {a : ShR} {y : Nat} (hu : P.underlying t = some (.slice e)) (hs : shOfR P n t = some (.sl y a .nil)) (hv : Value.okWide P w r b t v) (h : DataW.Trod enc P w base spare held t v d p) (hz : ∀ q ∈ d.weights P t, q ≤ reachBytes) :
    SlFitsR w v a.len y (a.fits w) := by
  have hf := openR_any hs h hz
  obtain ⟨A, l, c, rfl⟩ := okWide_slice hu hv
  obtain ⟨x, cs', he, hx, _⟩ := hf
  simp only [Value.cells, List.cons.injEq] at he
  rw [he.1]; exact hx
end
end Go.Proofs.Ytcejgadbpahbmaa
end
