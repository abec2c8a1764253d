/- Layer 16 (scan): the law's own document, reckoned by the kernel. -/
import Derived.Test.YtppndeoiifkkkaaOnD
import Derived.Test.YtppndeoiifkkkaaSzS
namespace Go.Proofs.Ytppndeoiifkkkaa
open Go.RowKit Sz
set_option linter.unusedVariables false
set_option linter.unusedSimpArgs false
set_option maxHeartbeats 4000000
set_option maxRecDepth 20000
abbrev EFF : List FuncId := [123, 141, 170, 171, 192, 194, 195, 197, 206, 209, 210, 224, 225, 227, 245, 247]
theorem Sz.Contract.mono [Inp] {P : Program} {f : FuncId} {q : Bool} {tr tr' : Trans} (h : Contract P f q tr) (ht : ∀ args m k, tr' args m k → tr args m k) : Contract P f q tr' :=
  ⟨h.enter, fun args m k base w0 W r vs h1 => h.calls args m k base w0 W r vs (ht _ _ _ h1)⟩
def g242R : List SV → Mem → Option (List (SV × Mem)) := fun args m => match args with
  | [.v (.int .u32 s), b] => (match rSl m 1 b with
    | some p => (match decB p.2 with | some bs => bif Nat.ble bs.length 1000 then some [(.v (.int .u32 (sumF s bs)), m)] else none | none => none)
    | none => none)
  | _ => none
theorem h242 : ∀ I : Inp, @Callable I Try.prog 242 true (trOf g242R) := fun I => .inl (c242_ok.mono fun args m k h => by
  unfold trOf g242R at h
  split at h
  case h_2 => exact h.elim
  rename_i L hL
  split at hL
  case h_2 => cases hL
  rename_i s b
  split at hL
  case h_2 => cases hL
  rename_i p hp
  split at hL
  case h_2 => cases hL
  rename_i bs hbs
  cases hb : Nat.ble bs.length 1000 with
  | false => simp [hb] at hL
  | true =>
    simp only [hb, cond_true] at hL
    injection hL with hL; subst hL
    have := Nat.le_of_ble_eq_true hb
    refine ⟨bs, ?_, by omega, h _ (List.mem_singleton.2 rfl)⟩
    unfold rdB
    rw [rSl_ok hp]
    exact hbs)
theorem h224 : ∀ I : Inp, @Callable I Try.prog 224 false (trOf gStore) := fun I => .inr e224
theorem h245 : ∀ I : Inp, @Callable I Try.prog 245 false (trOf (gAdd .i64)) := fun I => .inr e245
theorem h246 : ∀ I : Inp, @Callable I Try.prog 246 true (trOf (gLoad .i64)) := fun I => .inr e246
theorem h247 : ∀ I : Inp, @Callable I Try.prog 247 false (trOf gStore) := fun I => .inr e247
theorem h250 : ∀ I : Inp, @Callable I Try.prog 250 true (trOf (gLoad .u32)) := fun I => .inr e250
theorem fn218e : FnX Try.prog 218 EFF 5 x218 r218 := ⟨_, Try.func218, by kernel_rfl, by kernel_rfl, by kernel_rfl, by kernel_rfl⟩
-- almshouse/almshouselaw16.fixed (0 parameters)
def x74 : XC := (.seq (.tree (.seq ⟨some 0, none, (.ofA (.mv (.cst (.v (.bool false)))))⟩
  .done))
 (.seq (.tree (.seq ⟨some 12, none, (.build [(.v (.slice none 0 0)), (.v (.slice none 0 0)), (.v (.slice none 0 0)), (.v (.slice none 0 0))] [])⟩
  (.seq ⟨some 13, none, (.call (.cst (.fn 122 [])) [(.tmp 12)])⟩
  (.seq ⟨some 11, none, (.ofA (.mv (.tmp 13)))⟩
  (.seq ⟨some 14, none, (.ofA (.extract 0 (.tmp 11)))⟩
  (.seq ⟨some 15, none, (.ofA (.extract 1 (.tmp 11)))⟩
  (.seq ⟨some 1, none, (.ofA (.mv (.tmp 14)))⟩
  (.seq ⟨some 2, none, (.ofA (.mv (.tmp 15)))⟩
  .done))))))))
 (.seq (.tree (.seq ⟨some 16, none, (.build [(.v (.int .i64 0)), (.v (.int .i64 0)), (.v (.int .i64 0)), (.v (.int .i64 0)), (.v (.int .i64 0)), (.v (.bool false))] [(0, 1, (.cst (.v (.int .i64 1)))), (1, 1, (.cst (.v (.int .i64 2)))), (4, 1, (.cst (.v (.int .i64 1))))])⟩
  (.seq ⟨some 17, none, (.build [(.v (.int .i64 0)), (.v (.int .i64 0)), (.v (.int .i64 0)), (.v (.int .i64 0)), (.v (.int .i64 0)), (.v (.int .i64 0)), (.v (.int .i64 0)), (.v (.bool false)), (.v (.slice none 0 0)), (.v (.string ⟨#[]⟩)), (.v (.bool false)), (.v (.bool false))] [(1, 1, (.cst (.v (.int .i64 5)))), (2, 6, (.tmp 16))])⟩
  (.seq ⟨some 3, none, (.alloc [(.v (.int .i64 0)), (.v (.int .i64 0)), (.v (.int .i64 0)), (.v (.int .i64 0)), (.v (.int .i64 0)), (.v (.int .i64 0)), (.v (.int .i64 0)), (.v (.bool false)), (.v (.slice none 0 0)), (.v (.string ⟨#[]⟩)), (.v (.bool false)), (.v (.bool false))])⟩
  (.seq ⟨none, none, (.store 12 (.tmp 3) (.tmp 17))⟩
  .done)))))
 (.seq (.tree (.seq ⟨some 18, none, (.ofA (.mv (.tmp 1)))⟩
  (.seq ⟨some 19, none, (.ofA (.load (some 12) (.tmp 3)))⟩
  (.seq ⟨some 20, none, (.call (.cst (.fn 124 [])) [(.tmp 19)])⟩
  (.seq ⟨some 21, none, (.call (.cst (.fn 123 [])) [(.tmp 18), (.cst (.v (.int .i64 1))), (.cst (.v (.int .i64 5))), (.cst (.v (.int .i64 0))), (.tmp 20), (.cst (.v (.string ⟨#[120]⟩)))])⟩
  (.seq ⟨some 4, none, (.ofA (.mv (.tmp 21)))⟩
  .done))))))
 (.seq (.tree (.seq ⟨some 23, none, (.ofA (.mv (.tmp 1)))⟩
  (.seq ⟨some 24, none, (.buildSl 1 2 [(.v (.int .i64 0)), (.v (.int .i64 0))] [(0, 1, (.cst (.v (.int .i64 3)))), (1, 1, (.cst (.v (.int .i64 5))))])⟩
  (.seq ⟨some 25, none, (.call (.cst (.fn 125 [])) [(.tmp 23), (.tmp 24)])⟩
  (.seq ⟨some 22, none, (.ofA (.mv (.tmp 25)))⟩
  (.seq ⟨some 26, none, (.ofA (.extract 0 (.tmp 22)))⟩
  (.seq ⟨some 27, none, (.ofA (.extract 1 (.tmp 22)))⟩
  (.seq ⟨some 5, none, (.ofA (.mv (.tmp 26)))⟩
  (.seq ⟨some 6, none, (.ofA (.mv (.tmp 27)))⟩
  .done)))))))))
 (.seq (.tree (.seq ⟨some 29, none, (.ofA (.mv (.tmp 1)))⟩
  (.seq ⟨some 30, none, (.buildSl 1 1 [(.v (.int .i64 0))] [(0, 1, (.cst (.v (.int .i64 10))))])⟩
  (.seq ⟨some 31, none, (.call (.cst (.fn 125 [])) [(.tmp 29), (.tmp 30)])⟩
  (.seq ⟨some 28, none, (.ofA (.mv (.tmp 31)))⟩
  (.seq ⟨some 32, none, (.ofA (.extract 0 (.tmp 28)))⟩
  (.seq ⟨some 33, none, (.ofA (.extract 1 (.tmp 28)))⟩
  (.seq ⟨some 7, none, (.ofA (.mv (.tmp 32)))⟩
  (.seq ⟨some 8, none, (.ofA (.mv (.tmp 33)))⟩
  .done)))))))))
 (.seq (.tree (.seq ⟨some 35, none, (.ofA (.mv (.tmp 1)))⟩
  (.seq ⟨some 36, none, (.buildSl 1 1 [(.v (.int .i64 0))] [(0, 1, (.cst (.v (.int .i64 3))))])⟩
  (.seq ⟨some 37, none, (.call (.cst (.fn 126 [])) [(.tmp 35), (.tmp 36), (.cst (.v (.int .i64 0))), (.cst (.v (.int .i64 0)))])⟩
  (.seq ⟨some 34, none, (.ofA (.mv (.tmp 37)))⟩
  (.seq ⟨some 38, none, (.ofA (.extract 0 (.tmp 34)))⟩
  (.seq ⟨some 39, none, (.ofA (.extract 1 (.tmp 34)))⟩
  (.seq ⟨some 9, none, (.alloc [(.v (.int .i64 0)), (.v (.int .i64 0)), (.v (.bool false)), (.v (.int .i64 0)), (.v (.int .i64 0)), (.v (.int .i64 0)), (.v (.int .i64 0)), (.v (.int .i64 0)), (.v (.bool false)), (.v (.string ⟨#[]⟩))])⟩
  (.seq ⟨none, none, (.store 10 (.tmp 9) (.tmp 38))⟩
  (.seq ⟨some 10, none, (.ofA (.mv (.tmp 39)))⟩
  .done))))))))))
 (.seq (.tree (.seq ⟨some 40, none, (.ofA (.mv (.tmp 4)))⟩
  (.seq ⟨some 41, none, (.ofA (.bin .eql (.tmp 40) (.cst (.v (.int .i64 0)))))⟩
  (.seq ⟨some 42, none, (.ofA (.mv (.tmp 41)))⟩
  (.seq ⟨some 43, some (42, true), (.ofA (.mv (.tmp 6)))⟩
  (.seq ⟨some 44, some (42, true), (.ofA (.bin .eql (.tmp 43) (.cst (.v (.int .i64 0)))))⟩
  (.seq ⟨some 45, none, (.ofA (.pick (.tmp 42) (.tmp 44) (.cst (.v (.bool false)))))⟩
  (.seq ⟨some 46, none, (.ofA (.mv (.tmp 45)))⟩
  (.seq ⟨some 47, some (46, true), (.ofA (.mv (.tmp 5)))⟩
  (.seq ⟨some 48, some (46, true), (.ofA (.len (.tmp 47)))⟩
  (.seq ⟨some 49, some (46, true), (.ofA (.bin .eql (.tmp 48) (.cst (.v (.int .i64 1)))))⟩
  (.seq ⟨some 50, none, (.ofA (.pick (.tmp 46) (.tmp 49) (.cst (.v (.bool false)))))⟩
  (.seq ⟨some 51, none, (.ofA (.mv (.tmp 50)))⟩
  (.seq ⟨some 52, some (51, true), (.ofA (.mv (.tmp 5)))⟩
  (.seq ⟨some 53, some (51, true), (.ofA (.isl 10 (.tmp 52) (.cst (.v (.int .i64 0)))))⟩
  (.seq ⟨some 54, some (51, true), (.ofA (.faddr 0 (.tmp 53)))⟩
  (.seq ⟨some 55, some (51, true), (.ofA (.load none (.tmp 54)))⟩
  (.seq ⟨some 56, some (51, true), (.ofA (.bin .eql (.tmp 55) (.cst (.v (.int .i64 1)))))⟩
  (.seq ⟨some 57, none, (.ofA (.pick (.tmp 51) (.tmp 56) (.cst (.v (.bool false)))))⟩
  (.seq ⟨some 58, none, (.ofA (.mv (.tmp 57)))⟩
  (.seq ⟨some 59, some (58, true), (.ofA (.mv (.tmp 5)))⟩
  (.seq ⟨some 60, some (58, true), (.ofA (.isl 10 (.tmp 59) (.cst (.v (.int .i64 0)))))⟩
  (.seq ⟨some 61, some (58, true), (.ofA (.faddr 9 (.tmp 60)))⟩
  (.seq ⟨some 62, some (58, true), (.ofA (.load none (.tmp 61)))⟩
  (.seq ⟨some 63, some (58, true), (.ofA (.bin .eql (.tmp 62) (.cst (.v (.string ⟨#[120]⟩)))))⟩
  (.seq ⟨some 64, none, (.ofA (.pick (.tmp 58) (.tmp 63) (.cst (.v (.bool false)))))⟩
  (.seq ⟨some 65, none, (.ofA (.mv (.tmp 64)))⟩
  (.seq ⟨some 66, some (65, true), (.ofA (.mv (.tmp 5)))⟩
  (.seq ⟨some 67, some (65, true), (.ofA (.isl 10 (.tmp 66) (.cst (.v (.int .i64 0)))))⟩
  (.seq ⟨some 68, some (65, true), (.ofA (.load (some 10) (.tmp 67)))⟩
  (.seq ⟨some 69, some (65, true), (.call (.cst (.fn 75 [])) [(.tmp 68), (.cst (.v (.int .i64 1))), (.cst (.v (.int .i64 2)))])⟩
  (.seq ⟨some 70, none, (.ofA (.pick (.tmp 65) (.tmp 69) (.cst (.v (.bool false)))))⟩
  (.seq ⟨some 71, none, (.ofA (.mv (.tmp 70)))⟩
  (.seq ⟨some 72, some (71, true), (.ofA (.mv (.tmp 5)))⟩
  (.seq ⟨some 73, some (71, true), (.ofA (.isl 10 (.tmp 72) (.cst (.v (.int .i64 0)))))⟩
  (.seq ⟨some 74, some (71, true), (.ofA (.load (some 10) (.tmp 73)))⟩
  (.seq ⟨some 75, some (71, true), (.call (.cst (.fn 75 [])) [(.tmp 74), (.cst (.v (.int .i64 1))), (.cst (.v (.int .i64 3)))])⟩
  (.seq ⟨some 76, some (71, true), (.ofA (.un .not (.tmp 75)))⟩
  (.seq ⟨some 77, none, (.ofA (.pick (.tmp 71) (.tmp 76) (.cst (.v (.bool false)))))⟩
  (.seq ⟨some 78, none, (.ofA (.mv (.tmp 77)))⟩
  (.seq ⟨some 79, some (78, true), (.ofA (.mv (.tmp 8)))⟩
  (.seq ⟨some 80, some (78, true), (.ofA (.bin .eql (.tmp 79) (.cst (.v (.int .i64 5)))))⟩
  (.seq ⟨some 81, none, (.ofA (.pick (.tmp 78) (.tmp 80) (.cst (.v (.bool false)))))⟩
  (.seq ⟨some 82, none, (.ofA (.mv (.tmp 81)))⟩
  (.seq ⟨some 83, some (82, true), (.ofA (.mv (.tmp 10)))⟩
  (.seq ⟨some 84, some (82, true), (.ofA (.bin .eql (.tmp 83) (.cst (.v (.int .i64 6)))))⟩
  (.seq ⟨some 85, none, (.ofA (.pick (.tmp 82) (.tmp 84) (.cst (.v (.bool false)))))⟩
  (.seq ⟨some 0, none, (.ofA (.mv (.tmp 85)))⟩
  .done))))))))))))))))))))))))))))))))))))))))))))))))
 .ret))))))))
def r74 : List XR := [.tmp 0]
theorem fn74 : FnX Try.prog 74 [123, 141, 170, 171, 192, 194, 195, 197, 206, 209, 210, 224, 225, 227, 245, 247] 86 x74 r74 := ⟨_, Try.func74, by kernel_rfl, by kernel_rfl, by kernel_rfl, by kernel_rfl⟩
-- almshouse/scan.Mine (3 parameters)
def x75 : XC := (.seq (.tree (.seq ⟨some 3, none, (.box (.tmp 0))⟩
  (.seq ⟨some 6, none, (.ofA (.mv (.cst (.v (.bool false)))))⟩
  .done)))
 (.seq (.tree (.seq ⟨some 7, none, (.ofA (.faddr 2 (.tmp 3)))⟩
  (.seq ⟨some 8, none, (.ofA (.load none (.tmp 7)))⟩
  (.seq ⟨some 9, none, (.ofA (.un .not (.tmp 8)))⟩
  (.seq ⟨some 10, none, (.ofA (.mv (.tmp 9)))⟩
  (.seq ⟨some 11, some (10, true), (.ofA (.faddr 3 (.tmp 3)))⟩
  (.seq ⟨some 12, some (10, true), (.ofA (.faddr 0 (.tmp 11)))⟩
  (.seq ⟨some 13, some (10, true), (.ofA (.load none (.tmp 12)))⟩
  (.seq ⟨some 14, some (10, true), (.ofA (.mv (.tmp 1)))⟩
  (.seq ⟨some 15, some (10, true), (.ofA (.bin .eql (.tmp 13) (.tmp 14)))⟩
  (.seq ⟨some 16, none, (.ofA (.pick (.tmp 10) (.tmp 15) (.cst (.v (.bool false)))))⟩
  (.seq ⟨some 17, none, (.ofA (.mv (.tmp 16)))⟩
  (.seq ⟨some 18, some (17, true), (.ofA (.faddr 3 (.tmp 3)))⟩
  (.seq ⟨some 19, some (17, true), (.ofA (.faddr 1 (.tmp 18)))⟩
  (.seq ⟨some 20, some (17, true), (.ofA (.load none (.tmp 19)))⟩
  (.seq ⟨some 21, some (17, true), (.ofA (.mv (.tmp 2)))⟩
  (.seq ⟨some 22, some (17, true), (.ofA (.bin .eql (.tmp 20) (.tmp 21)))⟩
  (.seq ⟨some 23, none, (.ofA (.pick (.tmp 17) (.tmp 22) (.cst (.v (.bool false)))))⟩
  (.seq ⟨some 6, none, (.ofA (.mv (.tmp 23)))⟩
  .done)))))))))))))))))))
 .ret))
def r75 : List XR := [.tmp 6]
theorem fn75 : FnX Try.prog 75 [123, 141, 170, 171, 192, 194, 195, 197, 206, 209, 210, 224, 225, 227, 245, 247] 24 x75 r75 := ⟨_, Try.func75, by kernel_rfl, by kernel_rfl, by kernel_rfl, by kernel_rfl⟩
-- almshouse/almshouselaw16.array (1 parameters)
def x122 : XC := (.seq (.tree (.seq ⟨some 1, none, (.box (.tmp 0))⟩
  (.seq ⟨some 2, none, (.ofA (.mv (.cst (.v (.pointer none)))))⟩
  (.seq ⟨some 3, none, (.ofA (.mv (.cst (.v (.pointer none)))))⟩
  .done))))
 (.seq (.tree (.seq ⟨some 9, none, (.call (.cst (.fn 166 [])) [(.cst (.v (.int .i64 (-1))))])⟩
  (.seq ⟨some 4, none, (.ofA (.mv (.tmp 9)))⟩
  .done)))
 (.seq (.tree (.seq ⟨some 11, none, (.ofA (.load (some 4) (.tmp 1)))⟩
  (.seq ⟨some 12, none, (.call (.cst (.fn 167 [])) [(.tmp 11)])⟩
  (.seq ⟨some 10, none, (.ofA (.mv (.tmp 12)))⟩
  (.seq ⟨some 13, none, (.ofA (.extract 0 (.tmp 10)))⟩
  (.seq ⟨some 14, none, (.ofA (.extract 1 (.tmp 10)))⟩
  (.seq ⟨some 5, none, (.ofA (.mv (.tmp 13)))⟩
  (.seq ⟨some 6, none, (.ofA (.mv (.tmp 14)))⟩
  .done))))))))
 (.seq (.seq (.tree (.seq ⟨some 15, none, (.ofA (.mv (.tmp 6)))⟩
  (.seq ⟨some 16, none, (.ofA (.bin .neq (.tmp 15) (.cst (.v (.int .i64 0)))))⟩
  .done)))
 (.cond (.tmp 16)
 (.seq (.tree (.seq ⟨some 17, none, (.ofA (.mv (.tmp 4)))⟩
  (.seq ⟨some 2, none, (.ofA (.mv (.cst (.v (.pointer none)))))⟩
  (.seq ⟨some 3, none, (.ofA (.mv (.tmp 17)))⟩
  .done))))
 .ret)
 .skip))
 (.seq (.tree (.seq ⟨some 19, none, (.build [(.v (.int .i64 0)), (.v (.int .i64 0)), (.v (.int .i64 0)), (.v (.int .i64 0))] [(0, 1, (.cst (.v (.int .i64 1)))), (1, 1, (.cst (.v (.int .i64 1)))), (2, 1, (.cst (.v (.int .i64 10)))), (3, 1, (.cst (.v (.int .i64 4))))])⟩
  (.seq ⟨some 20, none, (.ofA (.mv (.tmp 4)))⟩
  (.seq ⟨some 21, none, (.ofA (.mv (.tmp 5)))⟩
  (.seq ⟨some 22, none, (.call (.cst (.fn 168 [])) [(.tmp 19), (.tmp 20), (.tmp 21), (.cst (.v (.slice none 0 0)))])⟩
  (.seq ⟨some 18, none, (.ofA (.mv (.tmp 22)))⟩
  (.seq ⟨some 23, none, (.ofA (.extract 0 (.tmp 18)))⟩
  (.seq ⟨some 24, none, (.ofA (.extract 1 (.tmp 18)))⟩
  (.seq ⟨some 7, none, (.ofA (.mv (.tmp 23)))⟩
  (.seq ⟨some 8, none, (.ofA (.mv (.tmp 24)))⟩
  .done))))))))))
 (.seq (.tree (.seq ⟨some 25, none, (.ofA (.mv (.tmp 7)))⟩
  (.seq ⟨some 26, none, (.ofA (.mv (.tmp 4)))⟩
  (.seq ⟨some 2, none, (.ofA (.mv (.tmp 25)))⟩
  (.seq ⟨some 3, none, (.ofA (.mv (.tmp 26)))⟩
  .done)))))
 .ret))))))
def r122 : List XR := [.tmp 2, .tmp 3]
theorem fn122 : FnX Try.prog 122 [123, 141, 170, 171, 192, 194, 195, 197, 206, 209, 210, 224, 225, 227, 245, 247] 27 x122 r122 := ⟨_, Try.func122, by kernel_rfl, by kernel_rfl, by kernel_rfl, by kernel_rfl⟩
-- almshouse/almshouselaw16.beside (1 parameters)
def x124 : XC := (.seq (.tree (.seq ⟨some 1, none, (.box (.tmp 0))⟩
  (.seq ⟨some 2, none, (.ofA (.mv (.cst (.v (.slice none 0 0)))))⟩
  .done)))
 (.seq (.tree (.seq ⟨some 6, none, (.ofA (.faddr 2 (.tmp 1)))⟩
  (.seq ⟨some 7, none, (.ofA (.load (some 6) (.tmp 6)))⟩
  (.seq ⟨some 8, none, (.call (.cst (.fn 173 [])) [(.tmp 7)])⟩
  (.seq ⟨some 5, none, (.ofA (.mv (.tmp 8)))⟩
  (.seq ⟨some 9, none, (.ofA (.extract 0 (.tmp 5)))⟩
  (.seq ⟨some 10, none, (.ofA (.extract 1 (.tmp 5)))⟩
  (.seq ⟨some 3, none, (.ofA (.mv (.tmp 9)))⟩
  (.seq ⟨some 4, none, (.ofA (.mv (.tmp 10)))⟩
  .done)))))))))
 (.seq (.seq (.tree (.seq ⟨some 11, none, (.ofA (.mv (.tmp 4)))⟩
  (.seq ⟨some 12, none, (.ofA (.bin .neq (.tmp 11) (.cst (.v (.int .i64 0)))))⟩
  (.seq ⟨some 13, none, (.ofA (.mv (.tmp 12)))⟩
  (.seq ⟨some 14, some (13, false), (.ofA (.faddr 8 (.tmp 1)))⟩
  (.seq ⟨some 15, some (13, false), (.ofA (.load none (.tmp 14)))⟩
  (.seq ⟨some 16, some (13, false), (.ofA (.len (.tmp 15)))⟩
  (.seq ⟨some 17, some (13, false), (.ofA (.bin .gtr (.tmp 16) (.cst (.v (.int .i64 0)))))⟩
  (.seq ⟨some 18, none, (.ofA (.pick (.tmp 13) (.cst (.v (.bool true))) (.tmp 17)))⟩
  .done)))))))))
 (.cond (.tmp 18)
 (.seq (.tree (.seq ⟨some 19, none, (.ofA (.faddr 8 (.tmp 1)))⟩
  (.seq ⟨some 20, none, (.ofA (.load none (.tmp 19)))⟩
  (.seq ⟨some 2, none, (.ofA (.mv (.tmp 20)))⟩
  .done))))
 .ret)
 .skip))
 (.seq (.tree (.seq ⟨some 21, none, (.ofA (.mv (.tmp 3)))⟩
  (.seq ⟨some 2, none, (.ofA (.mv (.tmp 21)))⟩
  .done)))
 .ret))))
def r124 : List XR := [.tmp 2]
theorem fn124 : FnX Try.prog 124 [123, 141, 170, 171, 192, 194, 195, 197, 206, 209, 210, 224, 225, 227, 245, 247] 22 x124 r124 := ⟨_, Try.func124, by kernel_rfl, by kernel_rfl, by kernel_rfl, by kernel_rfl⟩
-- almshouse/scan.Pages (2 parameters)
def x125 : XC := (.seq (.tree (.seq ⟨some 4, none, (.ofA (.mv (.cst (.v (.slice none 0 0)))))⟩
  (.seq ⟨some 5, none, (.ofA (.mv (.cst (.v (.int .i64 0)))))⟩
  .done)))
 (.seq (.seq (.tree (.seq ⟨some 14, none, (.ofA (.mv (.tmp 0)))⟩
  (.seq ⟨some 15, none, (.ofA (.eqn false 1 (.tmp 14) (.cst (.v (.pointer none)))))⟩
  .done)))
 (.cond (.tmp 15)
 (.seq (.tree (.seq ⟨some 4, none, (.ofA (.mv (.cst (.v (.slice none 0 0)))))⟩
  (.seq ⟨some 5, none, (.ofA (.mv (.cst (.v (.int .i64 1)))))⟩
  .done)))
 .ret)
 .skip))
 (.seq (.seq (.tree (.seq ⟨some 16, none, (.ofA (.mv (.tmp 1)))⟩
  (.seq ⟨some 17, none, (.ofA (.len (.tmp 16)))⟩
  (.seq ⟨some 18, none, (.ofA (.mv (.cst (.v (.int .i64 0)))))⟩
  .done))))
 (.block 0 (.loop (.seq (.tree (.seq ⟨some 19, none, (.ofA (.bin .lss (.tmp 18) (.tmp 17)))⟩
  .done))
 (.seq (.cond (.tmp 19)
 .skip
 (.exit 0))
 (.seq (.block 1 (.seq (.tree (.seq ⟨some 20, none, (.ofA (.isl 1 (.tmp 16) (.tmp 18)))⟩
  (.seq ⟨some 21, none, (.ofA (.load none (.tmp 20)))⟩
  (.seq ⟨some 7, none, (.ofA (.mv (.tmp 21)))⟩
  .done))))
 (.seq (.tree (.seq ⟨some 22, none, (.ofA (.mv (.tmp 7)))⟩
  (.seq ⟨some 23, none, (.ofA (.bin .lss (.tmp 22) (.cst (.v (.int .i64 0)))))⟩
  (.seq ⟨some 24, none, (.ofA (.mv (.tmp 23)))⟩
  (.seq ⟨some 25, some (24, false), (.ofA (.mv (.tmp 7)))⟩
  (.seq ⟨some 26, some (24, false), (.ofA (.mv (.tmp 0)))⟩
  (.seq ⟨some 27, some (24, false), (.call (.cst (.fn 174 [])) [(.tmp 26)])⟩
  (.seq ⟨some 28, some (24, false), (.ofA (.bin .geq (.tmp 25) (.tmp 27)))⟩
  (.seq ⟨some 29, none, (.ofA (.pick (.tmp 24) (.cst (.v (.bool true))) (.tmp 28)))⟩
  .done)))))))))
 (.cond (.tmp 29)
 (.seq (.tree (.seq ⟨some 4, none, (.ofA (.mv (.cst (.v (.slice none 0 0)))))⟩
  (.seq ⟨some 5, none, (.ofA (.mv (.cst (.v (.int .i64 5)))))⟩
  .done)))
 .ret)
 .skip))))
 (.tree (.seq ⟨some 30, none, (.ofA (.bin .add (.tmp 18) (.cst (.v (.int .i64 1)))))⟩
  (.seq ⟨some 18, none, (.ofA (.mv (.tmp 30)))⟩
  .done)))))))))
 (.seq (.tree (.seq ⟨some 8, none, (.ofA (.mv (.cst (.v (.slice none 0 0)))))⟩
  .done))
 (.seq (.seq (.tree (.seq ⟨some 31, none, (.ofA (.mv (.tmp 1)))⟩
  (.seq ⟨some 32, none, (.ofA (.len (.tmp 31)))⟩
  (.seq ⟨some 33, none, (.ofA (.mv (.cst (.v (.int .i64 0)))))⟩
  .done))))
 (.block 2 (.loop (.seq (.tree (.seq ⟨some 34, none, (.ofA (.bin .lss (.tmp 33) (.tmp 32)))⟩
  .done))
 (.seq (.cond (.tmp 34)
 .skip
 (.exit 2))
 (.seq (.block 3 (.seq (.tree (.seq ⟨some 35, none, (.ofA (.mv (.tmp 33)))⟩
  (.seq ⟨some 36, none, (.ofA (.isl 1 (.tmp 31) (.tmp 33)))⟩
  (.seq ⟨some 37, none, (.ofA (.load none (.tmp 36)))⟩
  (.seq ⟨some 9, none, (.ofA (.mv (.tmp 35)))⟩
  (.seq ⟨some 10, none, (.ofA (.mv (.tmp 37)))⟩
  .done))))))
 (.seq (.seq (.tree (.seq ⟨some 38, none, (.ofA (.mv (.tmp 0)))⟩
  (.seq ⟨some 39, none, (.ofA (.mv (.tmp 10)))⟩
  (.seq ⟨some 40, none, (.call (.cst (.fn 175 [])) [(.tmp 38), (.tmp 39)])⟩
  .done))))
 (.cond (.tmp 40)
 (.exit 3)
 .skip))
 (.seq (.tree (.seq ⟨some 41, none, (.ofA (.mv (.tmp 0)))⟩
  (.seq ⟨some 42, none, (.ofA (.mv (.tmp 10)))⟩
  (.seq ⟨some 43, none, (.call (.cst (.fn 176 [])) [(.tmp 41), (.tmp 42)])⟩
  (.seq ⟨some 44, none, (.ofA (.mv (.cst (.v (.int .i64 0)))))⟩
  .done)))))
 (.block 4 (.loop (.seq (.tree (.seq ⟨some 45, none, (.ofA (.bin .lss (.tmp 44) (.tmp 43)))⟩
  .done))
 (.seq (.cond (.tmp 45)
 .skip
 (.exit 4))
 (.seq (.block 5 (.seq (.tree (.seq ⟨some 46, none, (.ofA (.mv (.tmp 44)))⟩
  (.seq ⟨some 11, none, (.ofA (.mv (.tmp 46)))⟩
  .done)))
 (.seq (.tree (.seq ⟨some 48, none, (.ofA (.mv (.tmp 0)))⟩
  (.seq ⟨some 49, none, (.ofA (.mv (.tmp 1)))⟩
  (.seq ⟨some 50, none, (.ofA (.mv (.tmp 9)))⟩
  (.seq ⟨some 51, none, (.ofA (.mv (.tmp 11)))⟩
  (.seq ⟨some 52, none, (.call (.cst (.fn 126 [])) [(.tmp 48), (.tmp 49), (.tmp 50), (.tmp 51)])⟩
  (.seq ⟨some 47, none, (.ofA (.mv (.tmp 52)))⟩
  (.seq ⟨some 53, none, (.ofA (.extract 0 (.tmp 47)))⟩
  (.seq ⟨some 54, none, (.ofA (.extract 1 (.tmp 47)))⟩
  (.seq ⟨some 12, none, (.alloc [(.v (.int .i64 0)), (.v (.int .i64 0)), (.v (.bool false)), (.v (.int .i64 0)), (.v (.int .i64 0)), (.v (.int .i64 0)), (.v (.int .i64 0)), (.v (.int .i64 0)), (.v (.bool false)), (.v (.string ⟨#[]⟩))])⟩
  (.seq ⟨none, none, (.store 10 (.tmp 12) (.tmp 53))⟩
  (.seq ⟨some 13, none, (.ofA (.mv (.tmp 54)))⟩
  .done))))))))))))
 (.seq (.seq (.tree (.seq ⟨some 55, none, (.ofA (.mv (.tmp 13)))⟩
  (.seq ⟨some 56, none, (.ofA (.bin .neq (.tmp 55) (.cst (.v (.int .i64 0)))))⟩
  .done)))
 (.cond (.tmp 56)
 (.seq (.tree (.seq ⟨some 57, none, (.ofA (.mv (.tmp 13)))⟩
  (.seq ⟨some 4, none, (.ofA (.mv (.cst (.v (.slice none 0 0)))))⟩
  (.seq ⟨some 5, none, (.ofA (.mv (.tmp 57)))⟩
  .done))))
 .ret)
 .skip))
 (.tree (.seq ⟨some 58, none, (.ofA (.mv (.tmp 8)))⟩
  (.seq ⟨some 59, none, (.ofA (.load (some 10) (.tmp 12)))⟩
  (.seq ⟨some 60, none, (.buildSl 10 1 [(.v (.int .i64 0)), (.v (.int .i64 0)), (.v (.bool false)), (.v (.int .i64 0)), (.v (.int .i64 0)), (.v (.int .i64 0)), (.v (.int .i64 0)), (.v (.int .i64 0)), (.v (.bool false)), (.v (.string ⟨#[]⟩))] [(0, 10, (.tmp 59))])⟩
  (.seq ⟨some 61, none, (.app 10 88 (.tmp 58) (.tmp 60))⟩
  (.seq ⟨some 8, none, (.ofA (.mv (.tmp 61)))⟩
  .done))))))))))
 (.tree (.seq ⟨some 62, none, (.ofA (.bin .add (.tmp 44) (.cst (.v (.int .i64 1)))))⟩
  (.seq ⟨some 44, none, (.ofA (.mv (.tmp 62)))⟩
  .done))))))))))))
 (.tree (.seq ⟨some 63, none, (.ofA (.bin .add (.tmp 33) (.cst (.v (.int .i64 1)))))⟩
  (.seq ⟨some 33, none, (.ofA (.mv (.tmp 63)))⟩
  .done)))))))))
 (.seq (.tree (.seq ⟨some 64, none, (.ofA (.mv (.tmp 8)))⟩
  (.seq ⟨some 4, none, (.ofA (.mv (.tmp 64)))⟩
  (.seq ⟨some 5, none, (.ofA (.mv (.cst (.v (.int .i64 0)))))⟩
  .done))))
 .ret))))))
def r125 : List XR := [.tmp 4, .tmp 5]
theorem fn125 : FnX Try.prog 125 [123, 141, 170, 171, 192, 194, 195, 197, 206, 209, 210, 224, 225, 227, 245, 247] 65 x125 r125 := ⟨_, Try.func125, by kernel_rfl, by kernel_rfl, by kernel_rfl, by kernel_rfl⟩
-- almshouse/scan.One (4 parameters)
def x126 : XC := (.seq (.tree (.seq ⟨some 8, none, (.alloc [(.v (.int .i64 0)), (.v (.int .i64 0)), (.v (.bool false)), (.v (.int .i64 0)), (.v (.int .i64 0)), (.v (.int .i64 0)), (.v (.int .i64 0)), (.v (.int .i64 0)), (.v (.bool false)), (.v (.string ⟨#[]⟩))])⟩
  (.seq ⟨some 9, none, (.ofA (.mv (.cst (.v (.int .i64 0)))))⟩
  .done)))
 (.seq (.block 0 (.seq (.tree (.seq ⟨some 17, none, (.ofA (.mv (.tmp 0)))⟩
  (.seq ⟨some 18, none, (.ofA (.eqn false 1 (.tmp 17) (.cst (.v (.pointer none)))))⟩
  (.seq ⟨some 16, none, (.ofA (.mv (.tmp 18)))⟩
  .done))))
 (.cond (.tmp 16)
 (.seq (.tree (.seq ⟨some 19, none, (.build [(.v (.int .i64 0)), (.v (.int .i64 0)), (.v (.bool false)), (.v (.int .i64 0)), (.v (.int .i64 0)), (.v (.int .i64 0)), (.v (.int .i64 0)), (.v (.int .i64 0)), (.v (.bool false)), (.v (.string ⟨#[]⟩))] [])⟩
  (.seq ⟨none, none, (.store 10 (.tmp 8) (.tmp 19))⟩
  (.seq ⟨some 9, none, (.ofA (.mv (.cst (.v (.int .i64 1)))))⟩
  .done))))
 .ret)
 (.seq (.tree (.seq ⟨some 21, none, (.ofA (.mv (.tmp 2)))⟩
  (.seq ⟨some 22, none, (.ofA (.bin .lss (.tmp 21) (.cst (.v (.int .i64 0)))))⟩
  (.seq ⟨some 23, none, (.ofA (.mv (.tmp 22)))⟩
  (.seq ⟨some 24, some (23, false), (.ofA (.mv (.tmp 2)))⟩
  (.seq ⟨some 25, some (23, false), (.ofA (.mv (.tmp 1)))⟩
  (.seq ⟨some 26, some (23, false), (.ofA (.len (.tmp 25)))⟩
  (.seq ⟨some 27, some (23, false), (.ofA (.bin .geq (.tmp 24) (.tmp 26)))⟩
  (.seq ⟨some 28, none, (.ofA (.pick (.tmp 23) (.cst (.v (.bool true))) (.tmp 27)))⟩
  (.seq ⟨some 20, none, (.ofA (.mv (.tmp 28)))⟩
  .done))))))))))
 (.cond (.tmp 20)
 (.seq (.tree (.seq ⟨some 29, none, (.build [(.v (.int .i64 0)), (.v (.int .i64 0)), (.v (.bool false)), (.v (.int .i64 0)), (.v (.int .i64 0)), (.v (.int .i64 0)), (.v (.int .i64 0)), (.v (.int .i64 0)), (.v (.bool false)), (.v (.string ⟨#[]⟩))] [])⟩
  (.seq ⟨none, none, (.store 10 (.tmp 8) (.tmp 29))⟩
  (.seq ⟨some 9, none, (.ofA (.mv (.cst (.v (.int .i64 5)))))⟩
  .done))))
 .ret)
 .skip)))))
 (.seq (.tree (.seq ⟨some 31, none, (.ofA (.mv (.tmp 0)))⟩
  (.seq ⟨some 32, none, (.ofA (.mv (.tmp 1)))⟩
  (.seq ⟨some 33, none, (.ofA (.mv (.tmp 2)))⟩
  (.seq ⟨some 34, none, (.ofA (.isl 1 (.tmp 32) (.tmp 33)))⟩
  (.seq ⟨some 35, none, (.ofA (.load none (.tmp 34)))⟩
  (.seq ⟨some 36, none, (.ofA (.mv (.tmp 3)))⟩
  (.seq ⟨some 37, none, (.call (.cst (.fn 177 [])) [(.tmp 31), (.tmp 35), (.tmp 36)])⟩
  (.seq ⟨some 30, none, (.ofA (.mv (.tmp 37)))⟩
  (.seq ⟨some 38, none, (.ofA (.extract 0 (.tmp 30)))⟩
  (.seq ⟨some 39, none, (.ofA (.extract 1 (.tmp 30)))⟩
  (.seq ⟨some 40, none, (.ofA (.extract 2 (.tmp 30)))⟩
  (.seq ⟨some 10, none, (.ofA (.mv (.tmp 38)))⟩
  (.seq ⟨some 11, none, (.ofA (.mv (.tmp 39)))⟩
  (.seq ⟨some 12, none, (.ofA (.mv (.tmp 40)))⟩
  .done)))))))))))))))
 (.seq (.seq (.tree (.seq ⟨some 41, none, (.ofA (.mv (.tmp 12)))⟩
  (.seq ⟨some 42, none, (.ofA (.bin .neq (.tmp 41) (.cst (.v (.int .i64 0)))))⟩
  (.seq ⟨some 43, none, (.ofA (.mv (.tmp 42)))⟩
  (.seq ⟨some 44, some (43, true), (.ofA (.mv (.tmp 12)))⟩
  (.seq ⟨some 45, some (43, true), (.ofA (.bin .neq (.tmp 44) (.cst (.v (.int .i64 11)))))⟩
  (.seq ⟨some 46, none, (.ofA (.pick (.tmp 43) (.tmp 45) (.cst (.v (.bool false)))))⟩
  .done)))))))
 (.cond (.tmp 46)
 (.seq (.tree (.seq ⟨some 47, none, (.build [(.v (.int .i64 0)), (.v (.int .i64 0)), (.v (.bool false)), (.v (.int .i64 0)), (.v (.int .i64 0)), (.v (.int .i64 0)), (.v (.int .i64 0)), (.v (.int .i64 0)), (.v (.bool false)), (.v (.string ⟨#[]⟩))] [])⟩
  (.seq ⟨some 48, none, (.ofA (.mv (.tmp 12)))⟩
  (.seq ⟨none, none, (.store 10 (.tmp 8) (.tmp 47))⟩
  (.seq ⟨some 9, none, (.ofA (.mv (.tmp 48)))⟩
  .done)))))
 .ret)
 .skip))
 (.seq (.tree (.seq ⟨some 49, none, (.ofA (.mv (.tmp 2)))⟩
  (.seq ⟨some 50, none, (.ofA (.mv (.tmp 3)))⟩
  (.seq ⟨some 51, none, (.build [(.v (.int .i64 0)), (.v (.int .i64 0)), (.v (.bool false)), (.v (.int .i64 0)), (.v (.int .i64 0)), (.v (.int .i64 0)), (.v (.int .i64 0)), (.v (.int .i64 0)), (.v (.bool false)), (.v (.string ⟨#[]⟩))] [(0, 1, (.tmp 49)), (1, 1, (.tmp 50))])⟩
  (.seq ⟨some 13, none, (.alloc [(.v (.int .i64 0)), (.v (.int .i64 0)), (.v (.bool false)), (.v (.int .i64 0)), (.v (.int .i64 0)), (.v (.int .i64 0)), (.v (.int .i64 0)), (.v (.int .i64 0)), (.v (.bool false)), (.v (.string ⟨#[]⟩))])⟩
  (.seq ⟨none, none, (.store 10 (.tmp 13) (.tmp 51))⟩
  .done))))))
 (.seq (.tree (.seq ⟨some 53, none, (.ofA (.mv (.tmp 10)))⟩
  (.seq ⟨some 54, none, (.call (.cst (.fn 178 [])) [(.tmp 53)])⟩
  (.seq ⟨some 52, none, (.ofA (.mv (.tmp 54)))⟩
  (.seq ⟨some 55, none, (.ofA (.extract 0 (.tmp 52)))⟩
  (.seq ⟨some 56, none, (.ofA (.extract 1 (.tmp 52)))⟩
  (.seq ⟨some 14, none, (.alloc [(.v (.int .i64 0)), (.v (.int .i64 0)), (.v (.int .i64 0)), (.v (.int .i64 0)), (.v (.int .i64 0)), (.v (.bool false))])⟩
  (.seq ⟨none, none, (.store 6 (.tmp 14) (.tmp 55))⟩
  (.seq ⟨some 15, none, (.ofA (.mv (.tmp 56)))⟩
  .done)))))))))
 (.seq (.seq (.tree (.seq ⟨some 57, none, (.ofA (.mv (.tmp 12)))⟩
  (.seq ⟨some 58, none, (.ofA (.bin .eql (.tmp 57) (.cst (.v (.int .i64 11)))))⟩
  (.seq ⟨some 59, none, (.ofA (.mv (.tmp 58)))⟩
  (.seq ⟨some 60, some (59, false), (.ofA (.mv (.tmp 15)))⟩
  (.seq ⟨some 61, some (59, false), (.ofA (.bin .neq (.tmp 60) (.cst (.v (.int .i64 0)))))⟩
  (.seq ⟨some 62, none, (.ofA (.pick (.tmp 59) (.cst (.v (.bool true))) (.tmp 61)))⟩
  .done)))))))
 (.cond (.tmp 62)
 (.seq (.tree (.seq ⟨some 63, none, (.ofA (.faddr 2 (.tmp 13)))⟩
  (.seq ⟨none, none, (.store 1 (.tmp 63) (.cst (.v (.bool true))))⟩
  .done)))
 (.seq (.tree (.seq ⟨some 64, none, (.ofA (.load (some 10) (.tmp 13)))⟩
  (.seq ⟨none, none, (.store 10 (.tmp 8) (.tmp 64))⟩
  (.seq ⟨some 9, none, (.ofA (.mv (.cst (.v (.int .i64 0)))))⟩
  .done))))
 .ret))
 .skip))
 (.seq (.tree (.seq ⟨some 65, none, (.ofA (.load (some 6) (.tmp 14)))⟩
  (.seq ⟨some 66, none, (.ofA (.mv (.tmp 11)))⟩
  (.seq ⟨some 67, none, (.ofA (.faddr 3 (.tmp 13)))⟩
  (.seq ⟨none, none, (.store 6 (.tmp 67) (.tmp 65))⟩
  (.seq ⟨some 68, none, (.ofA (.faddr 9 (.tmp 13)))⟩
  (.seq ⟨none, none, (.store 1 (.tmp 68) (.tmp 66))⟩
  .done)))))))
 (.seq (.tree (.seq ⟨some 69, none, (.ofA (.load (some 10) (.tmp 13)))⟩
  (.seq ⟨none, none, (.store 10 (.tmp 8) (.tmp 69))⟩
  (.seq ⟨some 9, none, (.ofA (.mv (.cst (.v (.int .i64 0)))))⟩
  .done))))
 .ret)))))))))
def r126 : List XR := [.cell 8 (some 10), .tmp 9]
theorem fn126 : FnX Try.prog 126 [123, 141, 170, 171, 192, 194, 195, 197, 206, 209, 210, 224, 225, 227, 245, 247] 70 x126 r126 := ⟨_, Try.func126, by kernel_rfl, by kernel_rfl, by kernel_rfl, by kernel_rfl⟩
-- almshouse/geom.Check (1 parameters)
def x142 : XC := (.seq (.tree (.seq ⟨some 1, none, (.box (.tmp 0))⟩
  (.seq ⟨some 2, none, (.ofA (.mv (.cst (.v (.int .i64 0)))))⟩
  .done)))
 (.seq (.tree (.seq ⟨some 6, none, (.ofA (.faddr 0 (.tmp 1)))⟩
  (.seq ⟨some 7, none, (.ofA (.load none (.tmp 6)))⟩
  (.seq ⟨some 8, none, (.ofA (.faddr 1 (.tmp 1)))⟩
  (.seq ⟨some 9, none, (.ofA (.load none (.tmp 8)))⟩
  (.seq ⟨some 10, none, (.ofA (.faddr 2 (.tmp 1)))⟩
  (.seq ⟨some 11, none, (.ofA (.load none (.tmp 10)))⟩
  (.seq ⟨some 12, none, (.ofA (.mx false (.tmp 7) [(.tmp 9), (.tmp 11)]))⟩
  (.seq ⟨some 3, none, (.ofA (.mv (.tmp 12)))⟩
  .done)))))))))
 (.seq (.tree (.seq ⟨some 13, none, (.ofA (.faddr 0 (.tmp 1)))⟩
  (.seq ⟨some 14, none, (.ofA (.load none (.tmp 13)))⟩
  (.seq ⟨some 15, none, (.ofA (.faddr 1 (.tmp 1)))⟩
  (.seq ⟨some 16, none, (.ofA (.load none (.tmp 15)))⟩
  (.seq ⟨some 17, none, (.ofA (.faddr 2 (.tmp 1)))⟩
  (.seq ⟨some 18, none, (.ofA (.load none (.tmp 17)))⟩
  (.seq ⟨some 19, none, (.ofA (.mx true (.tmp 14) [(.tmp 16), (.tmp 18)]))⟩
  (.seq ⟨some 4, none, (.ofA (.mv (.tmp 19)))⟩
  .done)))))))))
 (.seq (.block 0 (.seq (.tree (.seq ⟨some 21, none, (.ofA (.mv (.tmp 3)))⟩
  (.seq ⟨some 22, none, (.ofA (.bin .lss (.tmp 21) (.cst (.v (.int .i64 1)))))⟩
  (.seq ⟨some 23, none, (.ofA (.mv (.tmp 22)))⟩
  (.seq ⟨some 24, some (23, false), (.ofA (.faddr 3 (.tmp 1)))⟩
  (.seq ⟨some 25, some (23, false), (.ofA (.load none (.tmp 24)))⟩
  (.seq ⟨some 26, some (23, false), (.ofA (.bin .lss (.tmp 25) (.cst (.v (.int .i64 2)))))⟩
  (.seq ⟨some 27, none, (.ofA (.pick (.tmp 23) (.cst (.v (.bool true))) (.tmp 26)))⟩
  (.seq ⟨some 20, none, (.ofA (.mv (.tmp 27)))⟩
  .done)))))))))
 (.cond (.tmp 20)
 (.seq (.tree (.seq ⟨some 2, none, (.ofA (.mv (.cst (.v (.int .i64 1)))))⟩
  .done))
 .ret)
 (.seq (.tree (.seq ⟨some 29, none, (.ofA (.mv (.tmp 4)))⟩
  (.seq ⟨some 30, none, (.ofA (.bin .gtr (.tmp 29) (.cst (.v (.int .i64 64)))))⟩
  (.seq ⟨some 31, none, (.ofA (.mv (.tmp 30)))⟩
  (.seq ⟨some 32, some (31, false), (.ofA (.faddr 3 (.tmp 1)))⟩
  (.seq ⟨some 33, some (31, false), (.ofA (.load none (.tmp 32)))⟩
  (.seq ⟨some 34, some (31, false), (.ofA (.bin .gtr (.tmp 33) (.cst (.v (.int .i64 16)))))⟩
  (.seq ⟨some 35, none, (.ofA (.pick (.tmp 31) (.cst (.v (.bool true))) (.tmp 34)))⟩
  (.seq ⟨some 28, none, (.ofA (.mv (.tmp 35)))⟩
  .done)))))))))
 (.cond (.tmp 28)
 (.seq (.tree (.seq ⟨some 2, none, (.ofA (.mv (.cst (.v (.int .i64 4)))))⟩
  .done))
 .ret)
 .skip)))))
 (.seq (.seq (.tree (.seq ⟨some 36, none, (.ofA (.faddr 0 (.tmp 1)))⟩
  (.seq ⟨some 37, none, (.ofA (.load none (.tmp 36)))⟩
  (.seq ⟨some 38, none, (.ofA (.faddr 1 (.tmp 1)))⟩
  (.seq ⟨some 39, none, (.ofA (.load none (.tmp 38)))⟩
  (.seq ⟨some 40, none, (.ofA (.bin .mul (.tmp 37) (.tmp 39)))⟩
  (.seq ⟨some 41, none, (.ofA (.faddr 2 (.tmp 1)))⟩
  (.seq ⟨some 42, none, (.ofA (.load none (.tmp 41)))⟩
  (.seq ⟨some 43, none, (.ofA (.bin .mul (.tmp 40) (.tmp 42)))⟩
  (.seq ⟨some 5, none, (.ofA (.mv (.tmp 43)))⟩
  .done))))))))))
 (.block 1 (.seq (.tree (.seq ⟨some 45, none, (.ofA (.mv (.tmp 5)))⟩
  (.seq ⟨some 46, none, (.ofA (.bin .leq (.tmp 45) (.cst (.v (.int .i64 2)))))⟩
  (.seq ⟨some 44, none, (.ofA (.mv (.tmp 46)))⟩
  .done))))
 (.cond (.tmp 44)
 (.seq (.tree (.seq ⟨some 2, none, (.ofA (.mv (.cst (.v (.int .i64 1)))))⟩
  .done))
 .ret)
 (.seq (.tree (.seq ⟨some 48, none, (.ofA (.mv (.tmp 5)))⟩
  (.seq ⟨some 49, none, (.ofA (.bin .gtr (.tmp 48) (.cst (.v (.int .i64 64)))))⟩
  (.seq ⟨some 47, none, (.ofA (.mv (.tmp 49)))⟩
  .done))))
 (.cond (.tmp 47)
 (.seq (.tree (.seq ⟨some 2, none, (.ofA (.mv (.cst (.v (.int .i64 4)))))⟩
  .done))
 .ret)
 .skip))))))
 (.seq (.tree (.seq ⟨some 2, none, (.ofA (.mv (.cst (.v (.int .i64 0)))))⟩
  .done))
 .ret))))))
def r142 : List XR := [.tmp 2]
theorem fn142 : FnX Try.prog 142 [123, 141, 170, 171, 192, 194, 195, 197, 206, 209, 210, 224, 225, 227, 245, 247] 50 x142 r142 := ⟨_, Try.func142, by kernel_rfl, by kernel_rfl, by kernel_rfl, by kernel_rfl⟩
-- almshouse/geom.Blocks (1 parameters)
def x144 : XC := (.seq (.tree (.seq ⟨some 1, none, (.box (.tmp 0))⟩
  (.seq ⟨some 2, none, (.ofA (.mv (.cst (.v (.int .i64 0)))))⟩
  .done)))
 (.seq (.seq (.tree (.seq ⟨some 3, none, (.ofA (.load (some 4) (.tmp 1)))⟩
  (.seq ⟨some 4, none, (.call (.cst (.fn 142 [])) [(.tmp 3)])⟩
  (.seq ⟨some 5, none, (.ofA (.bin .neq (.tmp 4) (.cst (.v (.int .i64 0)))))⟩
  .done))))
 (.cond (.tmp 5)
 (.seq (.tree (.seq ⟨some 2, none, (.ofA (.mv (.cst (.v (.int .i64 0)))))⟩
  .done))
 .ret)
 .skip))
 (.seq (.tree (.seq ⟨some 6, none, (.ofA (.faddr 0 (.tmp 1)))⟩
  (.seq ⟨some 7, none, (.ofA (.load none (.tmp 6)))⟩
  (.seq ⟨some 8, none, (.ofA (.faddr 1 (.tmp 1)))⟩
  (.seq ⟨some 9, none, (.ofA (.load none (.tmp 8)))⟩
  (.seq ⟨some 10, none, (.ofA (.bin .mul (.tmp 7) (.tmp 9)))⟩
  (.seq ⟨some 11, none, (.ofA (.faddr 2 (.tmp 1)))⟩
  (.seq ⟨some 12, none, (.ofA (.load none (.tmp 11)))⟩
  (.seq ⟨some 13, none, (.ofA (.bin .mul (.tmp 10) (.tmp 12)))⟩
  (.seq ⟨some 2, none, (.ofA (.mv (.tmp 13)))⟩
  .done))))))))))
 .ret)))
def r144 : List XR := [.tmp 2]
theorem fn144 : FnX Try.prog 144 [123, 141, 170, 171, 192, 194, 195, 197, 206, 209, 210, 224, 225, 227, 245, 247] 14 x144 r144 := ⟨_, Try.func144, by kernel_rfl, by kernel_rfl, by kernel_rfl, by kernel_rfl⟩
-- almshouse/almshouseref03.Make (2 parameters)
def x146 : XC := (.seq (.tree (.seq ⟨some 4, none, (.ofA (.mv (.cst (.v (.slice none 0 0)))))⟩
  (.seq ⟨some 5, none, (.ofA (.mv (.cst (.v (.int .i64 0)))))⟩
  .done)))
 (.seq (.seq (.tree (.seq ⟨some 7, none, (.ofA (.mv (.tmp 0)))⟩
  (.seq ⟨some 8, none, (.ofA (.bin .lss (.tmp 7) (.cst (.v (.int .i64 0)))))⟩
  (.seq ⟨some 9, none, (.ofA (.mv (.tmp 8)))⟩
  (.seq ⟨some 10, some (9, false), (.ofA (.mv (.tmp 0)))⟩
  (.seq ⟨some 11, some (9, false), (.ofA (.bin .gtr (.tmp 10) (.cst (.v (.int .i64 255)))))⟩
  (.seq ⟨some 12, none, (.ofA (.pick (.tmp 9) (.cst (.v (.bool true))) (.tmp 11)))⟩
  .done)))))))
 (.cond (.tmp 12)
 (.seq (.tree (.seq ⟨some 4, none, (.ofA (.mv (.cst (.v (.slice none 0 0)))))⟩
  (.seq ⟨some 5, none, (.ofA (.mv (.cst (.v (.int .i64 1)))))⟩
  .done)))
 .ret)
 .skip))
 (.seq (.seq (.tree (.seq ⟨some 13, none, (.ofA (.mv (.tmp 1)))⟩
  (.seq ⟨some 14, none, (.ofA (.len (.tmp 13)))⟩
  (.seq ⟨some 15, none, (.ofA (.bin .gtr (.tmp 14) (.cst (.v (.int .i64 65535)))))⟩
  .done))))
 (.cond (.tmp 15)
 (.seq (.tree (.seq ⟨some 4, none, (.ofA (.mv (.cst (.v (.slice none 0 0)))))⟩
  (.seq ⟨some 5, none, (.ofA (.mv (.cst (.v (.int .i64 3)))))⟩
  .done)))
 .ret)
 .skip))
 (.seq (.tree (.seq ⟨some 16, none, (.ofA (.mv (.tmp 0)))⟩
  (.seq ⟨some 17, none, (.call (.cst (.fn 147 [])) [(.cst (.v (.slice none 0 0))), (.tmp 16), (.cst (.v (.int .i64 1)))])⟩
  (.seq ⟨some 18, none, (.ofA (.mv (.tmp 1)))⟩
  (.seq ⟨some 19, none, (.ofA (.len (.tmp 18)))⟩
  (.seq ⟨some 20, none, (.call (.cst (.fn 147 [])) [(.tmp 17), (.tmp 19), (.cst (.v (.int .i64 2)))])⟩
  (.seq ⟨some 21, none, (.ofA (.mv (.tmp 1)))⟩
  (.seq ⟨some 22, none, (.app 1 1 (.tmp 20) (.tmp 21))⟩
  (.seq ⟨some 6, none, (.ofA (.mv (.tmp 22)))⟩
  .done)))))))))
 (.seq (.tree (.seq ⟨some 23, none, (.ofA (.mv (.tmp 6)))⟩
  (.seq ⟨some 24, none, (.ofA (.mv (.tmp 6)))⟩
  (.seq ⟨some 25, none, (.call (.cst (.fn 199 [])) [(.tmp 24)])⟩
  (.seq ⟨some 26, none, (.ofA (.conv .i64 (.tmp 25)))⟩
  (.seq ⟨some 27, none, (.call (.cst (.fn 147 [])) [(.tmp 23), (.tmp 26), (.cst (.v (.int .i64 4)))])⟩
  (.seq ⟨some 4, none, (.ofA (.mv (.tmp 27)))⟩
  (.seq ⟨some 5, none, (.ofA (.mv (.cst (.v (.int .i64 0)))))⟩
  .done))))))))
 .ret)))))
def r146 : List XR := [.tmp 4, .tmp 5]
theorem fn146 : FnX Try.prog 146 [123, 141, 170, 171, 192, 194, 195, 197, 206, 209, 210, 224, 225, 227, 245, 247] 28 x146 r146 := ⟨_, Try.func146, by kernel_rfl, by kernel_rfl, by kernel_rfl, by kernel_rfl⟩
-- almshouse/almshouseref01.Put (3 parameters)
def x147 : XC := (.seq (.tree (.seq ⟨some 6, none, (.ofA (.mv (.cst (.v (.slice none 0 0)))))⟩
  .done))
 (.seq (.tree (.seq ⟨some 9, none, (.buildSl 1 0 [] [])⟩
  (.seq ⟨some 10, none, (.ofA (.mv (.tmp 0)))⟩
  (.seq ⟨some 11, none, (.app 1 1 (.tmp 9) (.tmp 10))⟩
  (.seq ⟨some 7, none, (.ofA (.mv (.tmp 11)))⟩
  .done)))))
 (.seq (.seq (.tree (.seq ⟨some 12, none, (.ofA (.mv (.tmp 1)))⟩
  (.seq ⟨some 13, none, (.ofA (.mv (.tmp 2)))⟩
  (.seq ⟨some 14, none, (.call (.cst (.fn 200 [])) [(.tmp 12), (.tmp 13)])⟩
  (.seq ⟨some 15, none, (.ofA (.un .not (.tmp 14)))⟩
  .done)))))
 (.cond (.tmp 15)
 (.seq (.tree (.seq ⟨some 16, none, (.ofA (.mv (.tmp 7)))⟩
  (.seq ⟨some 6, none, (.ofA (.mv (.tmp 16)))⟩
  .done)))
 .ret)
 .skip))
 (.seq (.seq (.tree (.seq ⟨some 8, none, (.ofA (.mv (.cst (.v (.int .i64 0)))))⟩
  .done))
 (.block 0 (.loop (.seq (.seq (.tree (.seq ⟨some 17, none, (.ofA (.mv (.tmp 8)))⟩
  (.seq ⟨some 18, none, (.ofA (.mv (.tmp 2)))⟩
  (.seq ⟨some 19, none, (.ofA (.bin .lss (.tmp 17) (.tmp 18)))⟩
  .done))))
 (.cond (.tmp 19)
 .skip
 (.exit 0)))
 (.seq (.block 1 (.seq (.tree (.seq ⟨some 22, none, (.ofA (.mv (.tmp 7)))⟩
  (.seq ⟨some 23, none, (.ofA (.mv (.tmp 1)))⟩
  (.seq ⟨some 24, none, (.ofA (.bin .rem (.tmp 23) (.cst (.v (.int .i64 256)))))⟩
  (.seq ⟨some 25, none, (.ofA (.conv .u8 (.tmp 24)))⟩
  (.seq ⟨some 26, none, (.buildSl 1 1 [(.v (.int .u8 0))] [(0, 1, (.tmp 25))])⟩
  (.seq ⟨some 27, none, (.app 1 1 (.tmp 22) (.tmp 26))⟩
  (.seq ⟨some 7, none, (.ofA (.mv (.tmp 27)))⟩
  .done))))))))
 (.tree (.seq ⟨some 28, none, (.ofA (.mv (.tmp 1)))⟩
  (.seq ⟨some 29, none, (.ofA (.bin .quo (.tmp 28) (.cst (.v (.int .i64 256)))))⟩
  (.seq ⟨some 1, none, (.ofA (.mv (.tmp 29)))⟩
  .done))))))
 (.tree (.seq ⟨some 20, none, (.ofA (.mv (.tmp 8)))⟩
  (.seq ⟨some 21, none, (.ofA (.bin .add (.tmp 20) (.cst (.v (.int .i64 1)))))⟩
  (.seq ⟨some 8, none, (.ofA (.mv (.tmp 21)))⟩
  .done)))))))))
 (.seq (.tree (.seq ⟨some 30, none, (.ofA (.mv (.tmp 7)))⟩
  (.seq ⟨some 6, none, (.ofA (.mv (.tmp 30)))⟩
  .done)))
 .ret)))))
def r147 : List XR := [.tmp 6]
theorem fn147 : FnX Try.prog 147 [123, 141, 170, 171, 192, 194, 195, 197, 206, 209, 210, 224, 225, 227, 245, 247] 31 x147 r147 := ⟨_, Try.func147, by kernel_rfl, by kernel_rfl, by kernel_rfl, by kernel_rfl⟩
-- almshouse/power.New (1 parameters)
def x166 : XC := (.seq (.tree (.seq ⟨some 2, none, (.ofA (.mv (.cst (.v (.pointer none)))))⟩
  .done))
 (.seq (.tree (.seq ⟨some 4, none, (.build [(.v (.int .i64 0)), (.v (.int .u32 0)), (.v (.int .i64 0))] [])⟩
  (.seq ⟨some 5, none, (.box (.tmp 4))⟩
  (.seq ⟨some 3, none, (.ofA (.mv (.tmp 5)))⟩
  .done))))
 (.seq (.tree (.seq ⟨some 6, none, (.ofA (.mv (.tmp 3)))⟩
  (.seq ⟨some 7, none, (.ofA (.nilc (.tmp 6)))⟩
  (.seq ⟨some 8, none, (.ofA (.faddr 0 (.tmp 7)))⟩
  (.seq ⟨some 9, none, (.ofA (.mv (.tmp 0)))⟩
  (.seq ⟨some 10, none, (.call (.cst (.fn 206 [])) [(.tmp 8), (.tmp 9)])⟩
  .done))))))
 (.seq (.tree (.seq ⟨some 11, none, (.ofA (.mv (.tmp 3)))⟩
  (.seq ⟨some 2, none, (.ofA (.mv (.tmp 11)))⟩
  .done)))
 .ret))))
def r166 : List XR := [.tmp 2]
theorem fn166 : FnX Try.prog 166 [123, 141, 170, 171, 192, 194, 195, 197, 206, 209, 210, 224, 225, 227, 245, 247] 12 x166 r166 := ⟨_, Try.func166, by kernel_rfl, by kernel_rfl, by kernel_rfl, by kernel_rfl⟩
-- almshouse/draws.New (1 parameters)
def x167 : XC := (.seq (.tree (.seq ⟨some 1, none, (.box (.tmp 0))⟩
  (.seq ⟨some 2, none, (.ofA (.mv (.cst (.v (.pointer none)))))⟩
  (.seq ⟨some 3, none, (.ofA (.mv (.cst (.v (.int .i64 0)))))⟩
  .done))))
 (.seq (.seq (.tree (.seq ⟨some 9, none, (.ofA (.load (some 4) (.tmp 1)))⟩
  (.seq ⟨some 10, none, (.ofA (.mv (.cst (.v (.int .i64 0)))))⟩
  .done)))
 (.block 0 (.loop (.seq (.tree (.seq ⟨some 11, none, (.ofA (.bin .lss (.tmp 10) (.cst (.v (.int .i64 4)))))⟩
  .done))
 (.seq (.cond (.tmp 11)
 .skip
 (.exit 0))
 (.seq (.block 1 (.seq (.tree (.seq ⟨some 12, none, (.ofA (.idx 4 1 false (.tmp 9) (.tmp 10)))⟩
  (.seq ⟨some 5, none, (.ofA (.mv (.tmp 12)))⟩
  .done)))
 (.seq (.tree (.seq ⟨some 13, none, (.ofA (.mv (.tmp 5)))⟩
  (.seq ⟨some 14, none, (.ofA (.len (.tmp 13)))⟩
  (.seq ⟨some 15, none, (.ofA (.bin .gtr (.tmp 14) (.cst (.v (.int .i64 64)))))⟩
  .done))))
 (.cond (.tmp 15)
 (.seq (.tree (.seq ⟨some 2, none, (.ofA (.mv (.cst (.v (.pointer none)))))⟩
  (.seq ⟨some 3, none, (.ofA (.mv (.cst (.v (.int .i64 4)))))⟩
  .done)))
 .ret)
 .skip))))
 (.tree (.seq ⟨some 16, none, (.ofA (.bin .add (.tmp 10) (.cst (.v (.int .i64 1)))))⟩
  (.seq ⟨some 10, none, (.ofA (.mv (.tmp 16)))⟩
  .done)))))))))
 (.seq (.tree (.seq ⟨some 17, none, (.build [(.v (.slice none 0 0)), (.v (.int .i64 0)), (.v (.int .i64 0)), (.v (.slice none 0 0)), (.v (.int .i64 0)), (.v (.int .i64 0)), (.v (.slice none 0 0)), (.v (.int .i64 0)), (.v (.int .i64 0)), (.v (.slice none 0 0)), (.v (.int .i64 0)), (.v (.int .i64 0))] [])⟩
  (.seq ⟨some 18, none, (.box (.tmp 17))⟩
  (.seq ⟨some 6, none, (.ofA (.mv (.tmp 18)))⟩
  .done))))
 (.seq (.seq (.tree (.seq ⟨some 19, none, (.ofA (.load (some 4) (.tmp 1)))⟩
  (.seq ⟨some 20, none, (.ofA (.mv (.cst (.v (.int .i64 0)))))⟩
  .done)))
 (.block 2 (.loop (.seq (.tree (.seq ⟨some 21, none, (.ofA (.bin .lss (.tmp 20) (.cst (.v (.int .i64 4)))))⟩
  .done))
 (.seq (.cond (.tmp 21)
 .skip
 (.exit 2))
 (.seq (.block 3 (.seq (.tree (.seq ⟨some 22, none, (.ofA (.mv (.tmp 20)))⟩
  (.seq ⟨some 23, none, (.ofA (.idx 4 1 false (.tmp 19) (.tmp 20)))⟩
  (.seq ⟨some 7, none, (.ofA (.mv (.tmp 22)))⟩
  (.seq ⟨some 8, none, (.ofA (.mv (.tmp 23)))⟩
  .done)))))
 (.seq (.seq (.tree (.seq ⟨some 24, none, (.ofA (.mv (.tmp 8)))⟩
  (.seq ⟨some 25, none, (.ofA (.len (.tmp 24)))⟩
  (.seq ⟨some 26, none, (.ofA (.bin .gtr (.tmp 25) (.cst (.v (.int .i64 0)))))⟩
  (.seq ⟨some 27, none, (.ofA (.mv (.tmp 26)))⟩
  (.seq ⟨some 28, some (27, true), (.ofA (.mv (.tmp 8)))⟩
  (.seq ⟨some 29, some (27, true), (.call (.cst (.fn 207 [])) [(.tmp 28)])⟩
  (.seq ⟨some 30, some (27, true), (.ofA (.bin .lss (.tmp 29) (.cst (.v (.int .i64 1)))))⟩
  (.seq ⟨some 31, none, (.ofA (.pick (.tmp 27) (.tmp 30) (.cst (.v (.bool false)))))⟩
  .done)))))))))
 (.cond (.tmp 31)
 (.seq (.tree (.seq ⟨some 2, none, (.ofA (.mv (.cst (.v (.pointer none)))))⟩
  (.seq ⟨some 3, none, (.ofA (.mv (.cst (.v (.int .i64 5)))))⟩
  .done)))
 .ret)
 .skip))
 (.tree (.take ⟨some 32, none, (.ofA (.mv (.tmp 6)))⟩
  (.take ⟨some 33, none, (.ofA (.mv (.tmp 7)))⟩
  (.take ⟨some 34, none, (.ofA (.mv (.tmp 8)))⟩
  (.take ⟨some 36, none, (.ofA (.nilc (.tmp 32)))⟩
  (.take ⟨some 37, none, (.ofA (.faddr 0 (.tmp 36)))⟩
  (.act false [(⟨some 35, none, (.call (.cst (.fn 208 [])) [(.tmp 34)])⟩,
 (.take ⟨some 38, none, (.ofA (.iarr 4 3 (.tmp 37) (.tmp 33)))⟩
  (.take ⟨some 39, none, (.ofA (.faddr 0 (.tmp 38)))⟩
  (.act false [(⟨none, none, (.store 1 (.tmp 39) (.tmp 35))⟩,
 .done)]))))]))))))))))
 (.tree (.seq ⟨some 40, none, (.ofA (.bin .add (.tmp 20) (.cst (.v (.int .i64 1)))))⟩
  (.seq ⟨some 20, none, (.ofA (.mv (.tmp 40)))⟩
  .done)))))))))
 (.seq (.tree (.seq ⟨some 41, none, (.ofA (.mv (.tmp 6)))⟩
  (.seq ⟨some 2, none, (.ofA (.mv (.tmp 41)))⟩
  (.seq ⟨some 3, none, (.ofA (.mv (.cst (.v (.int .i64 0)))))⟩
  .done))))
 .ret)))))
def r167 : List XR := [.tmp 2, .tmp 3]
theorem fn167 : FnX Try.prog 167 [123, 141, 170, 171, 192, 194, 195, 197, 206, 209, 210, 224, 225, 227, 245, 247] 42 x167 r167 := ⟨_, Try.func167, by kernel_rfl, by kernel_rfl, by kernel_rfl, by kernel_rfl⟩
-- almshouse/nand.New (4 parameters)
def x168 : XC := (.seq (.tree (.seq ⟨some 4, none, (.box (.tmp 0))⟩
  (.seq ⟨some 8, none, (.ofA (.mv (.cst (.v (.pointer none)))))⟩
  (.seq ⟨some 9, none, (.ofA (.mv (.cst (.v (.int .i64 0)))))⟩
  .done))))
 (.seq (.seq (.tree (.seq ⟨some 15, none, (.ofA (.load (some 4) (.tmp 4)))⟩
  (.seq ⟨some 16, none, (.call (.cst (.fn 142 [])) [(.tmp 15)])⟩
  (.seq ⟨some 10, none, (.ofA (.mv (.tmp 16)))⟩
  .done))))
 (.seq (.tree (.seq ⟨some 17, none, (.ofA (.mv (.tmp 10)))⟩
  (.seq ⟨some 18, none, (.ofA (.bin .neq (.tmp 17) (.cst (.v (.int .i64 0)))))⟩
  .done)))
 (.cond (.tmp 18)
 (.seq (.tree (.seq ⟨some 19, none, (.ofA (.mv (.tmp 10)))⟩
  (.seq ⟨some 8, none, (.ofA (.mv (.cst (.v (.pointer none)))))⟩
  (.seq ⟨some 9, none, (.ofA (.mv (.tmp 19)))⟩
  .done))))
 .ret)
 .skip)))
 (.seq (.seq (.tree (.seq ⟨some 20, none, (.ofA (.mv (.tmp 1)))⟩
  (.seq ⟨some 21, none, (.ofA (.eqn false 1 (.tmp 20) (.cst (.v (.pointer none)))))⟩
  (.seq ⟨some 22, none, (.ofA (.mv (.tmp 21)))⟩
  (.seq ⟨some 23, some (22, false), (.ofA (.mv (.tmp 2)))⟩
  (.seq ⟨some 24, some (22, false), (.ofA (.eqn false 1 (.tmp 23) (.cst (.v (.pointer none)))))⟩
  (.seq ⟨some 25, none, (.ofA (.pick (.tmp 22) (.cst (.v (.bool true))) (.tmp 24)))⟩
  .done)))))))
 (.cond (.tmp 25)
 (.seq (.tree (.seq ⟨some 8, none, (.ofA (.mv (.cst (.v (.pointer none)))))⟩
  (.seq ⟨some 9, none, (.ofA (.mv (.cst (.v (.int .i64 1)))))⟩
  .done)))
 .ret)
 .skip))
 (.seq (.tree (.take ⟨some 26, none, (.ofA (.load (some 4) (.tmp 4)))⟩
  (.take ⟨some 27, none, (.ofA (.mv (.tmp 1)))⟩
  (.take ⟨some 28, none, (.ofA (.mv (.tmp 2)))⟩
  (.take ⟨some 29, none, (.ofA (.load (some 4) (.tmp 4)))⟩
  (.act true [(⟨some 30, none, (.call (.cst (.fn 144 [])) [(.tmp 29)])⟩,
 (.act true [(⟨some 31, none, (.mkSl 4 48 [(.v (.slice none 0 0)), (.v (.int .i64 0)), (.v (.bool false)), (.v (.int .i64 0))] (.tmp 30) (.tmp 30))⟩,
 (.act true [(⟨some 32, none, (.build [(.v (.int .i64 0)), (.v (.int .i64 0)), (.v (.int .i64 0)), (.v (.int .i64 0)), (.v (.pointer none)), (.v (.pointer none)), (.v (.slice none 0 0))] [(0, 4, (.tmp 26)), (4, 1, (.tmp 27)), (5, 1, (.tmp 28)), (6, 1, (.tmp 31))])⟩,
 (.act true [(⟨some 33, none, (.box (.tmp 32))⟩,
 (.take ⟨some 11, none, (.ofA (.mv (.tmp 33)))⟩
  .done))]))]))]))]))))))
 (.seq (.seq (.tree (.seq ⟨some 34, none, (.ofA (.mv (.tmp 11)))⟩
  (.seq ⟨some 35, none, (.ofA (.nilc (.tmp 34)))⟩
  (.seq ⟨some 36, none, (.ofA (.faddr 6 (.tmp 35)))⟩
  (.seq ⟨some 37, none, (.ofA (.load none (.tmp 36)))⟩
  (.seq ⟨some 38, none, (.ofA (.len (.tmp 37)))⟩
  (.seq ⟨some 39, none, (.ofA (.mv (.cst (.v (.int .i64 0)))))⟩
  .done)))))))
 (.block 0 (.loop (.seq (.tree (.seq ⟨some 40, none, (.ofA (.bin .lss (.tmp 39) (.tmp 38)))⟩
  .done))
 (.seq (.cond (.tmp 40)
 .skip
 (.exit 0))
 (.seq (.block 1 (.seq (.tree (.seq ⟨some 41, none, (.ofA (.mv (.tmp 39)))⟩
  (.seq ⟨some 12, none, (.ofA (.mv (.tmp 41)))⟩
  .done)))
 (.tree (.take ⟨some 42, none, (.ofA (.mv (.tmp 11)))⟩
  (.take ⟨some 43, none, (.ofA (.nilc (.tmp 42)))⟩
  (.take ⟨some 44, none, (.ofA (.faddr 6 (.tmp 43)))⟩
  (.take ⟨some 46, none, (.ofA (.mv (.tmp 12)))⟩
  (.take ⟨some 47, none, (.ofA (.faddr 3 (.tmp 4)))⟩
  (.act false [(⟨some 45, none, (.ofA (.load none (.tmp 44)))⟩,
 (.act false [(⟨some 48, none, (.ofA (.load none (.tmp 47)))⟩,
 (.act false [(⟨some 49, none, (.mkSl 3 48 [(.v (.int .i64 0)), (.v (.slice none 0 0)), (.v (.string ⟨#[]⟩))] (.tmp 48) (.tmp 48))⟩,
 (.take ⟨some 50, none, (.ofA (.isl 4 (.tmp 45) (.tmp 46)))⟩
  (.take ⟨some 51, none, (.ofA (.faddr 0 (.tmp 50)))⟩
  (.act false [(⟨none, none, (.store 1 (.tmp 51) (.tmp 49))⟩,
 .done)]))))]))])), (⟨some 48, none, (.ofA (.load none (.tmp 47)))⟩,
 (.act false [(⟨some 45, none, (.ofA (.load none (.tmp 44)))⟩,
 (.act false [(⟨some 49, none, (.mkSl 3 48 [(.v (.int .i64 0)), (.v (.slice none 0 0)), (.v (.string ⟨#[]⟩))] (.tmp 48) (.tmp 48))⟩,
 (.take ⟨some 50, none, (.ofA (.isl 4 (.tmp 45) (.tmp 46)))⟩
  (.take ⟨some 51, none, (.ofA (.faddr 0 (.tmp 50)))⟩
  (.act false [(⟨none, none, (.store 1 (.tmp 51) (.tmp 49))⟩,
 .done)]))))])), (⟨some 49, none, (.mkSl 3 48 [(.v (.int .i64 0)), (.v (.slice none 0 0)), (.v (.string ⟨#[]⟩))] (.tmp 48) (.tmp 48))⟩,
 (.act false [(⟨some 45, none, (.ofA (.load none (.tmp 44)))⟩,
 (.take ⟨some 50, none, (.ofA (.isl 4 (.tmp 45) (.tmp 46)))⟩
  (.take ⟨some 51, none, (.ofA (.faddr 0 (.tmp 50)))⟩
  (.act false [(⟨none, none, (.store 1 (.tmp 51) (.tmp 49))⟩,
 .done)]))))]))]))])))))))))
 (.tree (.seq ⟨some 52, none, (.ofA (.bin .add (.tmp 39) (.cst (.v (.int .i64 1)))))⟩
  (.seq ⟨some 39, none, (.ofA (.mv (.tmp 52)))⟩
  .done)))))))))
 (.seq (.seq (.tree (.seq ⟨some 53, none, (.ofA (.mv (.tmp 3)))⟩
  (.seq ⟨some 54, none, (.ofA (.len (.tmp 53)))⟩
  (.seq ⟨some 55, none, (.ofA (.mv (.cst (.v (.int .i64 0)))))⟩
  .done))))
 (.block 2 (.loop (.seq (.tree (.seq ⟨some 56, none, (.ofA (.bin .lss (.tmp 55) (.tmp 54)))⟩
  .done))
 (.seq (.cond (.tmp 56)
 .skip
 (.exit 2))
 (.seq (.block 3 (.seq (.tree (.seq ⟨some 57, none, (.ofA (.isl 1 (.tmp 53) (.tmp 55)))⟩
  (.seq ⟨some 58, none, (.ofA (.load none (.tmp 57)))⟩
  (.seq ⟨some 14, none, (.ofA (.mv (.tmp 58)))⟩
  .done))))
 (.seq (.seq (.tree (.seq ⟨some 59, none, (.ofA (.mv (.tmp 14)))⟩
  (.seq ⟨some 60, none, (.ofA (.bin .lss (.tmp 59) (.cst (.v (.int .i64 2)))))⟩
  (.seq ⟨some 61, none, (.ofA (.mv (.tmp 60)))⟩
  (.seq ⟨some 62, some (61, false), (.ofA (.mv (.tmp 14)))⟩
  (.seq ⟨some 63, some (61, false), (.ofA (.mv (.tmp 11)))⟩
  (.seq ⟨some 64, some (61, false), (.ofA (.nilc (.tmp 63)))⟩
  (.seq ⟨some 65, some (61, false), (.ofA (.faddr 6 (.tmp 64)))⟩
  (.seq ⟨some 66, some (61, false), (.ofA (.load none (.tmp 65)))⟩
  (.seq ⟨some 67, some (61, false), (.ofA (.len (.tmp 66)))⟩
  (.seq ⟨some 68, some (61, false), (.ofA (.bin .geq (.tmp 62) (.tmp 67)))⟩
  (.seq ⟨some 69, none, (.ofA (.pick (.tmp 61) (.cst (.v (.bool true))) (.tmp 68)))⟩
  .done))))))))))))
 (.cond (.tmp 69)
 (.seq (.tree (.seq ⟨some 8, none, (.ofA (.mv (.cst (.v (.pointer none)))))⟩
  (.seq ⟨some 9, none, (.ofA (.mv (.cst (.v (.int .i64 5)))))⟩
  .done)))
 .ret)
 .skip))
 (.tree (.seq ⟨some 70, none, (.ofA (.mv (.tmp 11)))⟩
  (.seq ⟨some 71, none, (.ofA (.nilc (.tmp 70)))⟩
  (.seq ⟨some 72, none, (.ofA (.faddr 6 (.tmp 71)))⟩
  (.seq ⟨some 73, none, (.ofA (.load none (.tmp 72)))⟩
  (.seq ⟨some 74, none, (.ofA (.mv (.tmp 14)))⟩
  (.seq ⟨some 75, none, (.ofA (.isl 4 (.tmp 73) (.tmp 74)))⟩
  (.seq ⟨some 76, none, (.ofA (.faddr 2 (.tmp 75)))⟩
  (.seq ⟨none, none, (.store 1 (.tmp 76) (.cst (.v (.bool true))))⟩
  .done))))))))))))
 (.tree (.seq ⟨some 77, none, (.ofA (.bin .add (.tmp 55) (.cst (.v (.int .i64 1)))))⟩
  (.seq ⟨some 55, none, (.ofA (.mv (.tmp 77)))⟩
  .done)))))))))
 (.seq (.tree (.seq ⟨some 78, none, (.ofA (.mv (.tmp 11)))⟩
  (.seq ⟨some 8, none, (.ofA (.mv (.tmp 78)))⟩
  (.seq ⟨some 9, none, (.ofA (.mv (.cst (.v (.int .i64 0)))))⟩
  .done))))
 .ret)))))))
def r168 : List XR := [.tmp 8, .tmp 9]
theorem fn168 : FnX Try.prog 168 [123, 141, 170, 171, 192, 194, 195, 197, 206, 209, 210, 224, 225, 227, 245, 247] 79 x168 r168 := ⟨_, Try.func168, by kernel_rfl, by kernel_rfl, by kernel_rfl, by kernel_rfl⟩
-- (*almshouse/nand.Nand).at (2 parameters)
def x169 : XC := (.seq (.tree (.seq ⟨some 4, none, (.ofA (.mv (.cst (.v (.pointer none)))))⟩
  .done))
 (.seq (.seq (.tree (.seq ⟨some 5, none, (.ofA (.mv (.tmp 0)))⟩
  (.seq ⟨some 6, none, (.ofA (.eqn false 1 (.tmp 5) (.cst (.v (.pointer none)))))⟩
  (.seq ⟨some 7, none, (.ofA (.mv (.tmp 6)))⟩
  (.seq ⟨some 8, some (7, false), (.ofA (.mv (.tmp 1)))⟩
  (.seq ⟨some 9, some (7, false), (.ofA (.bin .lss (.tmp 8) (.cst (.v (.int .i64 0)))))⟩
  (.seq ⟨some 10, none, (.ofA (.pick (.tmp 7) (.cst (.v (.bool true))) (.tmp 9)))⟩
  (.seq ⟨some 11, none, (.ofA (.mv (.tmp 10)))⟩
  (.seq ⟨some 12, some (11, false), (.ofA (.mv (.tmp 1)))⟩
  (.seq ⟨some 13, some (11, false), (.ofA (.mv (.tmp 0)))⟩
  (.seq ⟨some 14, some (11, false), (.ofA (.nilc (.tmp 13)))⟩
  (.seq ⟨some 15, some (11, false), (.ofA (.faddr 6 (.tmp 14)))⟩
  (.seq ⟨some 16, some (11, false), (.ofA (.load none (.tmp 15)))⟩
  (.seq ⟨some 17, some (11, false), (.ofA (.len (.tmp 16)))⟩
  (.seq ⟨some 18, some (11, false), (.ofA (.bin .geq (.tmp 12) (.tmp 17)))⟩
  (.seq ⟨some 19, none, (.ofA (.pick (.tmp 11) (.cst (.v (.bool true))) (.tmp 18)))⟩
  .done))))))))))))))))
 (.cond (.tmp 19)
 (.seq (.tree (.seq ⟨some 4, none, (.ofA (.mv (.cst (.v (.pointer none)))))⟩
  .done))
 .ret)
 .skip))
 (.seq (.tree (.seq ⟨some 20, none, (.ofA (.mv (.tmp 0)))⟩
  (.seq ⟨some 21, none, (.ofA (.nilc (.tmp 20)))⟩
  (.seq ⟨some 22, none, (.ofA (.faddr 6 (.tmp 21)))⟩
  (.seq ⟨some 23, none, (.ofA (.load none (.tmp 22)))⟩
  (.seq ⟨some 24, none, (.ofA (.mv (.tmp 1)))⟩
  (.seq ⟨some 25, none, (.ofA (.isl 4 (.tmp 23) (.tmp 24)))⟩
  (.seq ⟨some 4, none, (.ofA (.mv (.tmp 25)))⟩
  .done))))))))
 .ret)))
def r169 : List XR := [.tmp 4]
theorem fn169 : FnX Try.prog 169 [123, 141, 170, 171, 192, 194, 195, 197, 206, 209, 210, 224, 225, 227, 245, 247] 26 x169 r169 := ⟨_, Try.func169, by kernel_rfl, by kernel_rfl, by kernel_rfl, by kernel_rfl⟩
-- slices.Clone[[]byte,byte] (1 parameters)
def x172 : XC := (.seq (.tree (.seq ⟨some 2, none, (.ofA (.mv (.cst (.v (.slice none 0 0)))))⟩
  .done))
 (.seq (.seq (.tree (.seq ⟨some 3, none, (.ofA (.mv (.tmp 0)))⟩
  (.seq ⟨some 4, none, (.ofA (.eqn false 2 (.tmp 3) (.cst (.v (.slice none 0 0)))))⟩
  .done)))
 (.cond (.tmp 4)
 (.seq (.tree (.seq ⟨some 2, none, (.ofA (.mv (.cst (.v (.slice none 0 0)))))⟩
  .done))
 .ret)
 .skip))
 (.seq (.tree (.seq ⟨some 5, none, (.buildSl 1 0 [] [])⟩
  (.seq ⟨some 6, none, (.ofA (.mv (.tmp 0)))⟩
  (.seq ⟨some 7, none, (.app 1 1 (.tmp 5) (.tmp 6))⟩
  (.seq ⟨some 2, none, (.ofA (.mv (.tmp 7)))⟩
  .done)))))
 .ret)))
def r172 : List XR := [.tmp 2]
theorem fn172 : FnX Try.prog 172 [123, 141, 170, 171, 192, 194, 195, 197, 206, 209, 210, 224, 225, 227, 245, 247] 8 x172 r172 := ⟨_, Try.func172, by kernel_rfl, by kernel_rfl, by kernel_rfl, by kernel_rfl⟩
-- almshouse/almshouseref08.Bytes (1 parameters)
def x173 : XC := (.seq (.tree (.seq ⟨some 1, none, (.box (.tmp 0))⟩
  (.seq ⟨some 2, none, (.ofA (.mv (.cst (.v (.slice none 0 0)))))⟩
  (.seq ⟨some 3, none, (.ofA (.mv (.cst (.v (.int .i64 0)))))⟩
  .done))))
 (.seq (.seq (.tree (.seq ⟨some 5, none, (.ofA (.load (some 6) (.tmp 1)))⟩
  (.seq ⟨some 6, none, (.call (.cst (.fn 211 [])) [(.tmp 5)])⟩
  (.seq ⟨some 7, none, (.ofA (.un .not (.tmp 6)))⟩
  .done))))
 (.cond (.tmp 7)
 (.seq (.tree (.seq ⟨some 2, none, (.ofA (.mv (.cst (.v (.slice none 0 0)))))⟩
  (.seq ⟨some 3, none, (.ofA (.mv (.cst (.v (.int .i64 1)))))⟩
  .done)))
 .ret)
 .skip))
 (.seq (.tree (.take ⟨some 8, none, (.ofA (.faddr 0 (.tmp 1)))⟩
  (.take ⟨some 9, none, (.ofA (.load none (.tmp 8)))⟩
  (.take ⟨some 11, none, (.ofA (.faddr 1 (.tmp 1)))⟩
  (.take ⟨some 12, none, (.ofA (.load none (.tmp 11)))⟩
  (.take ⟨some 14, none, (.ofA (.faddr 2 (.tmp 1)))⟩
  (.take ⟨some 15, none, (.ofA (.load none (.tmp 14)))⟩
  (.act true [(⟨some 10, none, (.call (.cst (.fn 147 [])) [(.cst (.v (.slice none 0 0))), (.tmp 9), (.cst (.v (.int .i64 1)))])⟩,
 (.act true [(⟨some 13, none, (.call (.cst (.fn 147 [])) [(.tmp 10), (.tmp 12), (.cst (.v (.int .i64 4)))])⟩,
 (.act true [(⟨some 16, none, (.call (.cst (.fn 147 [])) [(.tmp 13), (.tmp 15), (.cst (.v (.int .i64 1)))])⟩,
 (.take ⟨some 4, none, (.ofA (.mv (.tmp 16)))⟩
  .done))]))]))]))))))))
 (.seq (.tree (.take ⟨some 17, none, (.ofA (.mv (.tmp 4)))⟩
  (.take ⟨some 18, none, (.ofA (.faddr 3 (.tmp 1)))⟩
  (.take ⟨some 19, none, (.ofA (.load none (.tmp 18)))⟩
  (.take ⟨some 21, none, (.ofA (.faddr 4 (.tmp 1)))⟩
  (.take ⟨some 22, none, (.ofA (.load none (.tmp 21)))⟩
  (.act true [(⟨some 20, none, (.call (.cst (.fn 147 [])) [(.tmp 17), (.tmp 19), (.cst (.v (.int .i64 4)))])⟩,
 (.act true [(⟨some 23, none, (.call (.cst (.fn 147 [])) [(.tmp 20), (.tmp 22), (.cst (.v (.int .i64 1)))])⟩,
 (.take ⟨some 4, none, (.ofA (.mv (.tmp 23)))⟩
  .done))]))])))))))
 (.seq (.seq (.tree (.seq ⟨some 24, none, (.ofA (.faddr 5 (.tmp 1)))⟩
  (.seq ⟨some 25, none, (.ofA (.load none (.tmp 24)))⟩
  .done)))
 (.cond (.tmp 25)
 (.seq (.tree (.seq ⟨some 26, none, (.ofA (.mv (.tmp 4)))⟩
  (.seq ⟨some 27, none, (.call (.cst (.fn 147 [])) [(.tmp 26), (.cst (.v (.int .i64 1))), (.cst (.v (.int .i64 1)))])⟩
  (.seq ⟨some 28, none, (.call (.cst (.fn 146 [])) [(.cst (.v (.int .i64 84))), (.tmp 27)])⟩
  (.seq ⟨some 29, none, (.ofA (.extract 0 (.tmp 28)))⟩
  (.seq ⟨some 30, none, (.ofA (.extract 1 (.tmp 28)))⟩
  (.seq ⟨some 2, none, (.ofA (.mv (.tmp 29)))⟩
  (.seq ⟨some 3, none, (.ofA (.mv (.tmp 30)))⟩
  .done))))))))
 .ret)
 .skip))
 (.seq (.tree (.seq ⟨some 31, none, (.ofA (.mv (.tmp 4)))⟩
  (.seq ⟨some 32, none, (.call (.cst (.fn 147 [])) [(.tmp 31), (.cst (.v (.int .i64 0))), (.cst (.v (.int .i64 1)))])⟩
  (.seq ⟨some 33, none, (.call (.cst (.fn 146 [])) [(.cst (.v (.int .i64 84))), (.tmp 32)])⟩
  (.seq ⟨some 34, none, (.ofA (.extract 0 (.tmp 33)))⟩
  (.seq ⟨some 35, none, (.ofA (.extract 1 (.tmp 33)))⟩
  (.seq ⟨some 2, none, (.ofA (.mv (.tmp 34)))⟩
  (.seq ⟨some 3, none, (.ofA (.mv (.tmp 35)))⟩
  .done))))))))
 .ret))))))
def r173 : List XR := [.tmp 2, .tmp 3]
theorem fn173 : FnX Try.prog 173 [123, 141, 170, 171, 192, 194, 195, 197, 206, 209, 210, 224, 225, 227, 245, 247] 36 x173 r173 := ⟨_, Try.func173, by kernel_rfl, by kernel_rfl, by kernel_rfl, by kernel_rfl⟩
-- (*almshouse/nand.Nand).Blocks (1 parameters)
def x174 : XC := (.seq (.tree (.seq ⟨some 2, none, (.ofA (.mv (.cst (.v (.int .i64 0)))))⟩
  .done))
 (.seq (.seq (.tree (.seq ⟨some 3, none, (.ofA (.mv (.tmp 0)))⟩
  (.seq ⟨some 4, none, (.ofA (.eqn false 1 (.tmp 3) (.cst (.v (.pointer none)))))⟩
  .done)))
 (.cond (.tmp 4)
 (.seq (.tree (.seq ⟨some 2, none, (.ofA (.mv (.cst (.v (.int .i64 0)))))⟩
  .done))
 .ret)
 .skip))
 (.seq (.tree (.seq ⟨some 5, none, (.ofA (.mv (.tmp 0)))⟩
  (.seq ⟨some 6, none, (.ofA (.nilc (.tmp 5)))⟩
  (.seq ⟨some 7, none, (.ofA (.faddr 6 (.tmp 6)))⟩
  (.seq ⟨some 8, none, (.ofA (.load none (.tmp 7)))⟩
  (.seq ⟨some 9, none, (.ofA (.len (.tmp 8)))⟩
  (.seq ⟨some 2, none, (.ofA (.mv (.tmp 9)))⟩
  .done)))))))
 .ret)))
def r174 : List XR := [.tmp 2]
theorem fn174 : FnX Try.prog 174 [123, 141, 170, 171, 192, 194, 195, 197, 206, 209, 210, 224, 225, 227, 245, 247] 10 x174 r174 := ⟨_, Try.func174, by kernel_rfl, by kernel_rfl, by kernel_rfl, by kernel_rfl⟩
-- (*almshouse/nand.Nand).Bad (2 parameters)
def x175 : XC := (.seq (.tree (.seq ⟨some 4, none, (.ofA (.mv (.cst (.v (.bool false)))))⟩
  .done))
 (.seq (.tree (.seq ⟨some 6, none, (.ofA (.mv (.tmp 0)))⟩
  (.seq ⟨some 7, none, (.ofA (.mv (.tmp 1)))⟩
  (.seq ⟨some 8, none, (.call (.cst (.fn 169 [])) [(.tmp 6), (.tmp 7)])⟩
  (.seq ⟨some 5, none, (.ofA (.mv (.tmp 8)))⟩
  .done)))))
 (.seq (.tree (.seq ⟨some 9, none, (.ofA (.mv (.tmp 5)))⟩
  (.seq ⟨some 10, none, (.ofA (.eqn true 1 (.tmp 9) (.cst (.v (.pointer none)))))⟩
  (.seq ⟨some 11, none, (.ofA (.mv (.tmp 10)))⟩
  (.seq ⟨some 12, some (11, true), (.ofA (.mv (.tmp 5)))⟩
  (.seq ⟨some 13, some (11, true), (.ofA (.nilc (.tmp 12)))⟩
  (.seq ⟨some 14, some (11, true), (.ofA (.faddr 2 (.tmp 13)))⟩
  (.seq ⟨some 15, some (11, true), (.ofA (.load none (.tmp 14)))⟩
  (.seq ⟨some 16, none, (.ofA (.pick (.tmp 11) (.tmp 15) (.cst (.v (.bool false)))))⟩
  (.seq ⟨some 4, none, (.ofA (.mv (.tmp 16)))⟩
  .done))))))))))
 .ret)))
def r175 : List XR := [.tmp 4]
theorem fn175 : FnX Try.prog 175 [123, 141, 170, 171, 192, 194, 195, 197, 206, 209, 210, 224, 225, 227, 245, 247] 17 x175 r175 := ⟨_, Try.func175, by kernel_rfl, by kernel_rfl, by kernel_rfl, by kernel_rfl⟩
-- (*almshouse/nand.Nand).Next (2 parameters)
def x176 : XC := (.seq (.tree (.seq ⟨some 4, none, (.ofA (.mv (.cst (.v (.int .i64 0)))))⟩
  .done))
 (.seq (.seq (.tree (.seq ⟨some 6, none, (.ofA (.mv (.tmp 0)))⟩
  (.seq ⟨some 7, none, (.ofA (.mv (.tmp 1)))⟩
  (.seq ⟨some 8, none, (.call (.cst (.fn 169 [])) [(.tmp 6), (.tmp 7)])⟩
  (.seq ⟨some 5, none, (.ofA (.mv (.tmp 8)))⟩
  .done)))))
 (.seq (.tree (.seq ⟨some 9, none, (.ofA (.mv (.tmp 5)))⟩
  (.seq ⟨some 10, none, (.ofA (.eqn true 1 (.tmp 9) (.cst (.v (.pointer none)))))⟩
  .done)))
 (.cond (.tmp 10)
 (.seq (.tree (.seq ⟨some 11, none, (.ofA (.mv (.tmp 5)))⟩
  (.seq ⟨some 12, none, (.ofA (.nilc (.tmp 11)))⟩
  (.seq ⟨some 13, none, (.ofA (.faddr 1 (.tmp 12)))⟩
  (.seq ⟨some 14, none, (.ofA (.load none (.tmp 13)))⟩
  (.seq ⟨some 4, none, (.ofA (.mv (.tmp 14)))⟩
  .done))))))
 .ret)
 .skip)))
 (.seq (.tree (.seq ⟨some 4, none, (.ofA (.mv (.cst (.v (.int .i64 0)))))⟩
  .done))
 .ret)))
def r176 : List XR := [.tmp 4]
theorem fn176 : FnX Try.prog 176 [123, 141, 170, 171, 192, 194, 195, 197, 206, 209, 210, 224, 225, 227, 245, 247] 15 x176 r176 := ⟨_, Try.func176, by kernel_rfl, by kernel_rfl, by kernel_rfl, by kernel_rfl⟩
-- (*almshouse/nand.Nand).Read (3 parameters)
def x177 : XC := (.seq (.tree (.seq ⟨some 6, none, (.ofA (.mv (.cst (.v (.slice none 0 0)))))⟩
  (.seq ⟨some 7, none, (.ofA (.mv (.cst (.v (.string ⟨#[]⟩)))))⟩
  (.seq ⟨some 8, none, (.ofA (.mv (.cst (.v (.int .i64 0)))))⟩
  .done))))
 (.seq (.tree (.seq ⟨some 11, none, (.ofA (.mv (.tmp 0)))⟩
  (.seq ⟨some 12, none, (.ofA (.mv (.tmp 1)))⟩
  (.seq ⟨some 13, none, (.call (.cst (.fn 169 [])) [(.tmp 11), (.tmp 12)])⟩
  (.seq ⟨some 9, none, (.ofA (.mv (.tmp 13)))⟩
  .done)))))
 (.seq (.block 0 (.seq (.tree (.seq ⟨some 15, none, (.ofA (.mv (.tmp 0)))⟩
  (.seq ⟨some 16, none, (.ofA (.eqn false 1 (.tmp 15) (.cst (.v (.pointer none)))))⟩
  (.seq ⟨some 14, none, (.ofA (.mv (.tmp 16)))⟩
  .done))))
 (.cond (.tmp 14)
 (.seq (.tree (.seq ⟨some 6, none, (.ofA (.mv (.cst (.v (.slice none 0 0)))))⟩
  (.seq ⟨some 7, none, (.ofA (.mv (.cst (.v (.string ⟨#[]⟩)))))⟩
  (.seq ⟨some 8, none, (.ofA (.mv (.cst (.v (.int .i64 1)))))⟩
  .done))))
 .ret)
 (.seq (.tree (.seq ⟨some 18, none, (.ofA (.mv (.tmp 9)))⟩
  (.seq ⟨some 19, none, (.ofA (.eqn false 1 (.tmp 18) (.cst (.v (.pointer none)))))⟩
  (.seq ⟨some 20, none, (.ofA (.mv (.tmp 19)))⟩
  (.seq ⟨some 21, some (20, false), (.ofA (.mv (.tmp 2)))⟩
  (.seq ⟨some 22, some (20, false), (.ofA (.bin .lss (.tmp 21) (.cst (.v (.int .i64 0)))))⟩
  (.seq ⟨some 23, none, (.ofA (.pick (.tmp 20) (.cst (.v (.bool true))) (.tmp 22)))⟩
  (.seq ⟨some 24, none, (.ofA (.mv (.tmp 23)))⟩
  (.seq ⟨some 25, some (24, false), (.ofA (.mv (.tmp 2)))⟩
  (.seq ⟨some 26, some (24, false), (.ofA (.mv (.tmp 9)))⟩
  (.seq ⟨some 27, some (24, false), (.ofA (.nilc (.tmp 26)))⟩
  (.seq ⟨some 28, some (24, false), (.ofA (.faddr 0 (.tmp 27)))⟩
  (.seq ⟨some 29, some (24, false), (.ofA (.load none (.tmp 28)))⟩
  (.seq ⟨some 30, some (24, false), (.ofA (.len (.tmp 29)))⟩
  (.seq ⟨some 31, some (24, false), (.ofA (.bin .geq (.tmp 25) (.tmp 30)))⟩
  (.seq ⟨some 32, none, (.ofA (.pick (.tmp 24) (.cst (.v (.bool true))) (.tmp 31)))⟩
  (.seq ⟨some 17, none, (.ofA (.mv (.tmp 32)))⟩
  .done)))))))))))))))))
 (.cond (.tmp 17)
 (.seq (.tree (.seq ⟨some 6, none, (.ofA (.mv (.cst (.v (.slice none 0 0)))))⟩
  (.seq ⟨some 7, none, (.ofA (.mv (.cst (.v (.string ⟨#[]⟩)))))⟩
  (.seq ⟨some 8, none, (.ofA (.mv (.cst (.v (.int .i64 5)))))⟩
  .done))))
 .ret)
 (.seq (.tree (.seq ⟨some 34, none, (.ofA (.mv (.tmp 0)))⟩
  (.seq ⟨some 35, none, (.ofA (.nilc (.tmp 34)))⟩
  (.seq ⟨some 36, none, (.ofA (.faddr 4 (.tmp 35)))⟩
  (.seq ⟨some 37, none, (.ofA (.load none (.tmp 36)))⟩
  (.seq ⟨some 38, none, (.call (.cst (.fn 212 [])) [(.tmp 37)])⟩
  (.seq ⟨some 33, none, (.ofA (.mv (.tmp 38)))⟩
  .done)))))))
 (.cond (.tmp 33)
 (.seq (.tree (.seq ⟨some 6, none, (.ofA (.mv (.cst (.v (.slice none 0 0)))))⟩
  (.seq ⟨some 7, none, (.ofA (.mv (.cst (.v (.string ⟨#[]⟩)))))⟩
  (.seq ⟨some 8, none, (.ofA (.mv (.cst (.v (.int .i64 12)))))⟩
  .done))))
 .ret)
 .skip)))))))
 (.seq (.seq (.tree (.seq ⟨some 39, none, (.ofA (.mv (.tmp 9)))⟩
  (.seq ⟨some 40, none, (.ofA (.nilc (.tmp 39)))⟩
  (.seq ⟨some 41, none, (.ofA (.faddr 0 (.tmp 40)))⟩
  (.seq ⟨some 42, none, (.ofA (.load none (.tmp 41)))⟩
  (.seq ⟨some 43, none, (.ofA (.mv (.tmp 2)))⟩
  (.seq ⟨some 44, none, (.ofA (.isl 3 (.tmp 42) (.tmp 43)))⟩
  (.seq ⟨some 45, none, (.ofA (.load (some 3) (.tmp 44)))⟩
  (.seq ⟨some 10, none, (.alloc [(.v (.int .i64 0)), (.v (.slice none 0 0)), (.v (.string ⟨#[]⟩))])⟩
  (.seq ⟨none, none, (.store 3 (.tmp 10) (.tmp 45))⟩
  .done))))))))))
 (.seq (.tree (.seq ⟨some 46, none, (.ofA (.faddr 0 (.tmp 10)))⟩
  (.seq ⟨some 47, none, (.ofA (.load none (.tmp 46)))⟩
  .done)))
 (.block 1 (.seq (.tree (.seq ⟨some 49, none, (.ofA (.bin .eql (.tmp 47) (.cst (.v (.int .i64 1)))))⟩
  (.seq ⟨some 48, none, (.ofA (.mv (.tmp 49)))⟩
  .done)))
 (.cond (.tmp 48)
 (.seq (.tree (.take ⟨some 50, none, (.ofA (.faddr 1 (.tmp 10)))⟩
  (.take ⟨some 51, none, (.ofA (.load none (.tmp 50)))⟩
  (.take ⟨some 53, none, (.ofA (.faddr 2 (.tmp 10)))⟩
  (.take ⟨some 54, none, (.ofA (.load none (.tmp 53)))⟩
  (.act true [(⟨some 52, none, (.call (.cst (.fn 172 [])) [(.tmp 51)])⟩,
 (.take ⟨some 6, none, (.ofA (.mv (.tmp 52)))⟩
  (.take ⟨some 7, none, (.ofA (.mv (.tmp 54)))⟩
  (.take ⟨some 8, none, (.ofA (.mv (.cst (.v (.int .i64 0)))))⟩
  .done))))]))))))
 .ret)
 (.seq (.tree (.seq ⟨some 56, none, (.ofA (.bin .eql (.tmp 47) (.cst (.v (.int .i64 2)))))⟩
  (.seq ⟨some 55, none, (.ofA (.mv (.tmp 56)))⟩
  .done)))
 (.cond (.tmp 55)
 (.seq (.tree (.seq ⟨some 6, none, (.ofA (.mv (.cst (.v (.slice none 0 0)))))⟩
  (.seq ⟨some 7, none, (.ofA (.mv (.cst (.v (.string ⟨#[]⟩)))))⟩
  (.seq ⟨some 8, none, (.ofA (.mv (.cst (.v (.int .i64 11)))))⟩
  .done))))
 .ret)
 .skip)))))))
 (.seq (.tree (.seq ⟨some 6, none, (.ofA (.mv (.cst (.v (.slice none 0 0)))))⟩
  (.seq ⟨some 7, none, (.ofA (.mv (.cst (.v (.string ⟨#[]⟩)))))⟩
  (.seq ⟨some 8, none, (.ofA (.mv (.cst (.v (.int .i64 6)))))⟩
  .done))))
 .ret)))))
def r177 : List XR := [.tmp 6, .tmp 7, .tmp 8]
theorem fn177 : FnX Try.prog 177 [123, 141, 170, 171, 192, 194, 195, 197, 206, 209, 210, 224, 225, 227, 245, 247] 57 x177 r177 := ⟨_, Try.func177, by kernel_rfl, by kernel_rfl, by kernel_rfl, by kernel_rfl⟩
-- almshouse/tag.Parse (1 parameters)
def x178 : XC := (.seq (.tree (.seq ⟨some 2, none, (.alloc [(.v (.int .i64 0)), (.v (.int .i64 0)), (.v (.int .i64 0)), (.v (.int .i64 0)), (.v (.int .i64 0)), (.v (.bool false))])⟩
  (.seq ⟨some 3, none, (.ofA (.mv (.cst (.v (.int .i64 0)))))⟩
  .done)))
 (.seq (.tree (.seq ⟨some 9, none, (.ofA (.mv (.tmp 0)))⟩
  (.seq ⟨some 10, none, (.call (.cst (.fn 213 [])) [(.tmp 9), (.cst (.v (.int .i64 84)))])⟩
  (.seq ⟨some 8, none, (.ofA (.mv (.tmp 10)))⟩
  (.seq ⟨some 11, none, (.ofA (.extract 0 (.tmp 8)))⟩
  (.seq ⟨some 12, none, (.ofA (.extract 1 (.tmp 8)))⟩
  (.seq ⟨some 4, none, (.ofA (.mv (.tmp 11)))⟩
  (.seq ⟨some 5, none, (.ofA (.mv (.tmp 12)))⟩
  .done))))))))
 (.seq (.seq (.tree (.seq ⟨some 13, none, (.ofA (.mv (.tmp 5)))⟩
  (.seq ⟨some 14, none, (.ofA (.bin .neq (.tmp 13) (.cst (.v (.int .i64 0)))))⟩
  .done)))
 (.cond (.tmp 14)
 (.seq (.tree (.seq ⟨some 15, none, (.build [(.v (.int .i64 0)), (.v (.int .i64 0)), (.v (.int .i64 0)), (.v (.int .i64 0)), (.v (.int .i64 0)), (.v (.bool false))] [])⟩
  (.seq ⟨some 16, none, (.ofA (.mv (.tmp 5)))⟩
  (.seq ⟨none, none, (.store 6 (.tmp 2) (.tmp 15))⟩
  (.seq ⟨some 3, none, (.ofA (.mv (.tmp 16)))⟩
  .done)))))
 .ret)
 .skip))
 (.seq (.tree (.seq ⟨some 17, none, (.ofA (.mv (.tmp 4)))⟩
  (.seq ⟨some 18, none, (.call (.cst (.fn 191 [])) [(.tmp 17)])⟩
  (.seq ⟨some 6, none, (.ofA (.mv (.tmp 18)))⟩
  .done))))
 (.seq (.tree (.seq ⟨some 7, none, (.alloc [(.v (.int .i64 0)), (.v (.int .i64 0)), (.v (.int .i64 0)), (.v (.int .i64 0)), (.v (.int .i64 0)), (.v (.bool false))])⟩
  .done))
 (.seq (.tree (.seq ⟨some 19, none, (.ofA (.mv (.tmp 6)))⟩
  (.seq ⟨some 20, none, (.call (.cst (.fn 141 [])) [(.tmp 19), (.cst (.v (.int .i64 1)))])⟩
  (.seq ⟨some 21, none, (.ofA (.mv (.tmp 6)))⟩
  (.seq ⟨some 22, none, (.call (.cst (.fn 141 [])) [(.tmp 21), (.cst (.v (.int .i64 4)))])⟩
  (.seq ⟨some 23, none, (.ofA (.faddr 0 (.tmp 7)))⟩
  (.seq ⟨none, none, (.store 1 (.tmp 23) (.tmp 20))⟩
  (.seq ⟨some 24, none, (.ofA (.faddr 1 (.tmp 7)))⟩
  (.seq ⟨none, none, (.store 1 (.tmp 24) (.tmp 22))⟩
  .done)))))))))
 (.seq (.tree (.seq ⟨some 25, none, (.ofA (.mv (.tmp 6)))⟩
  (.seq ⟨some 26, none, (.call (.cst (.fn 141 [])) [(.tmp 25), (.cst (.v (.int .i64 1)))])⟩
  (.seq ⟨some 27, none, (.ofA (.mv (.tmp 6)))⟩
  (.seq ⟨some 28, none, (.call (.cst (.fn 141 [])) [(.tmp 27), (.cst (.v (.int .i64 4)))])⟩
  (.seq ⟨some 29, none, (.ofA (.faddr 2 (.tmp 7)))⟩
  (.seq ⟨none, none, (.store 1 (.tmp 29) (.tmp 26))⟩
  (.seq ⟨some 30, none, (.ofA (.faddr 3 (.tmp 7)))⟩
  (.seq ⟨none, none, (.store 1 (.tmp 30) (.tmp 28))⟩
  .done)))))))))
 (.seq (.tree (.seq ⟨some 31, none, (.ofA (.mv (.tmp 6)))⟩
  (.seq ⟨some 32, none, (.call (.cst (.fn 141 [])) [(.tmp 31), (.cst (.v (.int .i64 1)))])⟩
  (.seq ⟨some 33, none, (.ofA (.mv (.tmp 6)))⟩
  (.seq ⟨some 34, none, (.call (.cst (.fn 197 [])) [(.tmp 33)])⟩
  (.seq ⟨some 35, none, (.ofA (.faddr 4 (.tmp 7)))⟩
  (.seq ⟨none, none, (.store 1 (.tmp 35) (.tmp 32))⟩
  (.seq ⟨some 36, none, (.ofA (.faddr 5 (.tmp 7)))⟩
  (.seq ⟨none, none, (.store 1 (.tmp 36) (.tmp 34))⟩
  .done)))))))))
 (.seq (.seq (.tree (.seq ⟨some 37, none, (.ofA (.mv (.tmp 6)))⟩
  (.seq ⟨some 38, none, (.call (.cst (.fn 192 [])) [(.tmp 37)])⟩
  (.seq ⟨some 39, none, (.ofA (.bin .neq (.tmp 38) (.cst (.v (.int .i64 0)))))⟩
  (.seq ⟨some 40, none, (.ofA (.mv (.tmp 39)))⟩
  (.seq ⟨some 41, some (40, false), (.ofA (.load (some 6) (.tmp 7)))⟩
  (.seq ⟨some 42, some (40, false), (.call (.cst (.fn 214 [])) [(.tmp 41)])⟩
  (.seq ⟨some 43, some (40, false), (.ofA (.un .not (.tmp 42)))⟩
  (.seq ⟨some 44, none, (.ofA (.pick (.tmp 40) (.cst (.v (.bool true))) (.tmp 43)))⟩
  .done)))))))))
 (.cond (.tmp 44)
 (.seq (.tree (.seq ⟨some 45, none, (.build [(.v (.int .i64 0)), (.v (.int .i64 0)), (.v (.int .i64 0)), (.v (.int .i64 0)), (.v (.int .i64 0)), (.v (.bool false))] [])⟩
  (.seq ⟨none, none, (.store 6 (.tmp 2) (.tmp 45))⟩
  (.seq ⟨some 3, none, (.ofA (.mv (.cst (.v (.int .i64 2)))))⟩
  .done))))
 .ret)
 .skip))
 (.seq (.tree (.seq ⟨some 46, none, (.ofA (.load (some 6) (.tmp 7)))⟩
  (.seq ⟨none, none, (.store 6 (.tmp 2) (.tmp 46))⟩
  (.seq ⟨some 3, none, (.ofA (.mv (.cst (.v (.int .i64 0)))))⟩
  .done))))
 .ret))))))))))
def r178 : List XR := [.cell 2 (some 6), .tmp 3]
theorem fn178 : FnX Try.prog 178 [123, 141, 170, 171, 192, 194, 195, 197, 206, 209, 210, 224, 225, 227, 245, 247] 47 x178 r178 := ⟨_, Try.func178, by kernel_rfl, by kernel_rfl, by kernel_rfl, by kernel_rfl⟩
-- almshouse/frame.Open (1 parameters)
def x190 : XC := (.seq (.tree (.seq ⟨some 2, none, (.ofA (.mv (.cst (.v (.int .i64 0)))))⟩
  (.seq ⟨some 3, none, (.ofA (.mv (.cst (.v (.slice none 0 0)))))⟩
  (.seq ⟨some 4, none, (.ofA (.mv (.cst (.v (.int .i64 0)))))⟩
  (.seq ⟨some 5, none, (.ofA (.mv (.cst (.v (.int .i64 0)))))⟩
  .done)))))
 (.seq (.tree (.seq ⟨some 9, none, (.ofA (.mv (.tmp 0)))⟩
  (.seq ⟨some 10, none, (.call (.cst (.fn 191 [])) [(.tmp 9)])⟩
  (.seq ⟨some 6, none, (.ofA (.mv (.tmp 10)))⟩
  .done))))
 (.seq (.tree (.seq ⟨some 11, none, (.ofA (.mv (.tmp 6)))⟩
  (.seq ⟨some 12, none, (.call (.cst (.fn 141 [])) [(.tmp 11), (.cst (.v (.int .i64 1)))])⟩
  (.seq ⟨some 2, none, (.ofA (.mv (.tmp 12)))⟩
  .done))))
 (.seq (.tree (.seq ⟨some 13, none, (.ofA (.mv (.tmp 6)))⟩
  (.seq ⟨some 14, none, (.call (.cst (.fn 141 [])) [(.tmp 13), (.cst (.v (.int .i64 2)))])⟩
  (.seq ⟨some 7, none, (.ofA (.mv (.tmp 14)))⟩
  .done))))
 (.seq (.seq (.tree (.seq ⟨some 15, none, (.ofA (.mv (.tmp 6)))⟩
  (.seq ⟨some 16, none, (.call (.cst (.fn 219 [])) [(.tmp 15)])⟩
  (.seq ⟨some 17, none, (.ofA (.mv (.tmp 7)))⟩
  (.seq ⟨some 18, none, (.ofA (.bin .add (.tmp 17) (.cst (.v (.int .i64 4)))))⟩
  (.seq ⟨some 19, none, (.ofA (.bin .lss (.tmp 16) (.tmp 18)))⟩
  (.seq ⟨some 20, none, (.ofA (.mv (.tmp 19)))⟩
  (.seq ⟨some 21, some (20, false), (.ofA (.mv (.tmp 0)))⟩
  (.seq ⟨some 22, some (20, false), (.ofA (.len (.tmp 21)))⟩
  (.seq ⟨some 23, some (20, false), (.ofA (.bin .lss (.tmp 22) (.cst (.v (.int .i64 3)))))⟩
  (.seq ⟨some 24, none, (.ofA (.pick (.tmp 20) (.cst (.v (.bool true))) (.tmp 23)))⟩
  .done)))))))))))
 (.cond (.tmp 24)
 (.seq (.tree (.seq ⟨some 2, none, (.ofA (.mv (.cst (.v (.int .i64 0)))))⟩
  (.seq ⟨some 3, none, (.ofA (.mv (.cst (.v (.slice none 0 0)))))⟩
  (.seq ⟨some 4, none, (.ofA (.mv (.cst (.v (.int .i64 0)))))⟩
  (.seq ⟨some 5, none, (.ofA (.mv (.cst (.v (.int .i64 2)))))⟩
  .done)))))
 .ret)
 .skip))
 (.seq (.tree (.seq ⟨some 25, none, (.ofA (.mv (.tmp 7)))⟩
  (.seq ⟨some 26, none, (.ofA (.bin .add (.cst (.v (.int .i64 3))) (.tmp 25)))⟩
  (.seq ⟨some 8, none, (.ofA (.mv (.tmp 26)))⟩
  .done))))
 (.seq (.seq (.tree (.take ⟨some 27, none, (.ofA (.mv (.tmp 0)))⟩
  (.take ⟨some 28, none, (.ofA (.mv (.tmp 8)))⟩
  (.take ⟨some 29, none, (.ofA (.slc 1 (.tmp 27) (some (.tmp 28)) none))⟩
  (.take ⟨some 32, none, (.ofA (.mv (.tmp 0)))⟩
  (.take ⟨some 33, none, (.ofA (.mv (.tmp 8)))⟩
  (.take ⟨some 34, none, (.ofA (.slc 1 (.tmp 32) none (some (.tmp 33))))⟩
  (.act false [(⟨some 30, none, (.call (.cst (.fn 191 [])) [(.tmp 29)])⟩,
 (.act false [(⟨some 31, none, (.call (.cst (.fn 141 [])) [(.tmp 30), (.cst (.v (.int .i64 4)))])⟩,
 (.act false [(⟨some 35, none, (.call (.cst (.fn 218 [])) [(.tmp 34)])⟩,
 (.take ⟨some 36, none, (.ofA (.conv .i64 (.tmp 35)))⟩
  (.take ⟨some 37, none, (.ofA (.bin .neq (.tmp 31) (.tmp 36)))⟩
  .done)))]))]))]))))))))
 (.cond (.tmp 37)
 (.seq (.tree (.seq ⟨some 2, none, (.ofA (.mv (.cst (.v (.int .i64 0)))))⟩
  (.seq ⟨some 3, none, (.ofA (.mv (.cst (.v (.slice none 0 0)))))⟩
  (.seq ⟨some 4, none, (.ofA (.mv (.cst (.v (.int .i64 0)))))⟩
  (.seq ⟨some 5, none, (.ofA (.mv (.cst (.v (.int .i64 14)))))⟩
  .done)))))
 .ret)
 .skip))
 (.seq (.tree (.seq ⟨some 38, none, (.ofA (.mv (.tmp 2)))⟩
  (.seq ⟨some 39, none, (.ofA (.mv (.tmp 0)))⟩
  (.seq ⟨some 40, none, (.ofA (.mv (.tmp 8)))⟩
  (.seq ⟨some 41, none, (.ofA (.slc 1 (.tmp 39) (some (.cst (.v (.int .i64 3)))) (some (.tmp 40))))⟩
  (.seq ⟨some 42, none, (.call (.cst (.fn 172 [])) [(.tmp 41)])⟩
  (.seq ⟨some 43, none, (.ofA (.mv (.tmp 8)))⟩
  (.seq ⟨some 44, none, (.ofA (.bin .add (.tmp 43) (.cst (.v (.int .i64 4)))))⟩
  (.seq ⟨some 2, none, (.ofA (.mv (.tmp 38)))⟩
  (.seq ⟨some 3, none, (.ofA (.mv (.tmp 42)))⟩
  (.seq ⟨some 4, none, (.ofA (.mv (.tmp 44)))⟩
  (.seq ⟨some 5, none, (.ofA (.mv (.cst (.v (.int .i64 0)))))⟩
  .done))))))))))))
 .ret))))))))
def r190 : List XR := [.tmp 2, .tmp 3, .tmp 4, .tmp 5]
theorem fn190 : FnX Try.prog 190 [123, 141, 170, 171, 192, 194, 195, 197, 206, 209, 210, 224, 225, 227, 245, 247] 45 x190 r190 := ⟨_, Try.func190, by kernel_rfl, by kernel_rfl, by kernel_rfl, by kernel_rfl⟩
-- almshouse/word.Read (1 parameters)
def x191 : XC := (.seq (.tree (.seq ⟨some 2, none, (.ofA (.mv (.cst (.v (.pointer none)))))⟩
  .done))
 (.seq (.tree (.seq ⟨some 3, none, (.ofA (.mv (.tmp 0)))⟩
  (.seq ⟨some 4, none, (.call (.cst (.fn 172 [])) [(.tmp 3)])⟩
  (.seq ⟨some 5, none, (.build [(.v (.slice none 0 0)), (.v (.int .i64 0))] [(0, 1, (.tmp 4))])⟩
  (.seq ⟨some 6, none, (.box (.tmp 5))⟩
  (.seq ⟨some 2, none, (.ofA (.mv (.tmp 6)))⟩
  .done))))))
 .ret))
def r191 : List XR := [.tmp 2]
theorem fn191 : FnX Try.prog 191 [123, 141, 170, 171, 192, 194, 195, 197, 206, 209, 210, 224, 225, 227, 245, 247] 7 x191 r191 := ⟨_, Try.func191, by kernel_rfl, by kernel_rfl, by kernel_rfl, by kernel_rfl⟩
-- almshouse/word.sized (1 parameters)
def x193 : XC := (.seq (.tree (.seq ⟨some 2, none, (.ofA (.mv (.cst (.v (.bool false)))))⟩
  .done))
 (.seq (.tree (.seq ⟨some 3, none, (.ofA (.mv (.tmp 0)))⟩
  (.seq ⟨some 4, none, (.ofA (.bin .eql (.tmp 3) (.cst (.v (.int .i64 1)))))⟩
  (.seq ⟨some 5, none, (.ofA (.mv (.tmp 4)))⟩
  (.seq ⟨some 6, some (5, false), (.ofA (.mv (.tmp 0)))⟩
  (.seq ⟨some 7, some (5, false), (.ofA (.bin .eql (.tmp 6) (.cst (.v (.int .i64 2)))))⟩
  (.seq ⟨some 8, none, (.ofA (.pick (.tmp 5) (.cst (.v (.bool true))) (.tmp 7)))⟩
  (.seq ⟨some 9, none, (.ofA (.mv (.tmp 8)))⟩
  (.seq ⟨some 10, some (9, false), (.ofA (.mv (.tmp 0)))⟩
  (.seq ⟨some 11, some (9, false), (.ofA (.bin .eql (.tmp 10) (.cst (.v (.int .i64 4)))))⟩
  (.seq ⟨some 12, none, (.ofA (.pick (.tmp 9) (.cst (.v (.bool true))) (.tmp 11)))⟩
  (.seq ⟨some 2, none, (.ofA (.mv (.tmp 12)))⟩
  .done))))))))))))
 .ret))
def r193 : List XR := [.tmp 2]
theorem fn193 : FnX Try.prog 193 [123, 141, 170, 171, 192, 194, 195, 197, 206, 209, 210, 224, 225, 227, 245, 247] 13 x193 r193 := ⟨_, Try.func193, by kernel_rfl, by kernel_rfl, by kernel_rfl, by kernel_rfl⟩
-- almshouse/almshouseref02.Of (1 parameters)
def x199 : XC := (.seq (.tree (.seq ⟨some 2, none, (.ofA (.mv (.cst (.v (.int .u32 0)))))⟩
  .done))
 (.seq (.tree (.seq ⟨some 3, none, (.ofA (.mv (.cst (.v (.int .u32 4294967295)))))⟩
  .done))
 (.seq (.seq (.tree (.seq ⟨some 9, none, (.ofA (.mv (.tmp 0)))⟩
  (.seq ⟨some 10, none, (.ofA (.len (.tmp 9)))⟩
  (.seq ⟨some 11, none, (.ofA (.mv (.cst (.v (.int .i64 0)))))⟩
  .done))))
 (.block 0 (.loop (.seq (.tree (.seq ⟨some 12, none, (.ofA (.bin .lss (.tmp 11) (.tmp 10)))⟩
  .done))
 (.seq (.cond (.tmp 12)
 .skip
 (.exit 0))
 (.seq (.block 1 (.seq (.tree (.seq ⟨some 13, none, (.ofA (.isl 1 (.tmp 9) (.tmp 11)))⟩
  (.seq ⟨some 14, none, (.ofA (.load none (.tmp 13)))⟩
  (.seq ⟨some 5, none, (.ofA (.mv (.tmp 14)))⟩
  .done))))
 (.seq (.tree (.seq ⟨some 6, none, (.ofA (.mv (.cst (.v (.int .i64 0)))))⟩
  .done))
 (.block 2 (.loop (.seq (.seq (.tree (.seq ⟨some 15, none, (.ofA (.mv (.tmp 6)))⟩
  (.seq ⟨some 16, none, (.ofA (.bin .lss (.tmp 15) (.cst (.v (.int .i64 8)))))⟩
  .done)))
 (.cond (.tmp 16)
 .skip
 (.exit 2)))
 (.seq (.block 3 (.seq (.tree (.seq ⟨some 19, none, (.ofA (.mv (.tmp 5)))⟩
  (.seq ⟨some 20, none, (.ofA (.conv .u32 (.tmp 19)))⟩
  (.seq ⟨some 21, none, (.ofA (.bin .rem (.tmp 20) (.cst (.v (.int .u32 2)))))⟩
  (.seq ⟨some 7, none, (.ofA (.mv (.tmp 21)))⟩
  .done)))))
 (.seq (.tree (.seq ⟨some 22, none, (.ofA (.mv (.tmp 5)))⟩
  (.seq ⟨some 23, none, (.ofA (.bin .quo (.tmp 22) (.cst (.v (.int .u8 2)))))⟩
  (.seq ⟨some 5, none, (.ofA (.mv (.tmp 23)))⟩
  .done))))
 (.seq (.tree (.seq ⟨some 24, none, (.ofA (.mv (.tmp 3)))⟩
  (.seq ⟨some 25, none, (.ofA (.bin .rem (.tmp 24) (.cst (.v (.int .u32 2)))))⟩
  (.seq ⟨some 26, none, (.ofA (.mv (.tmp 7)))⟩
  (.seq ⟨some 27, none, (.ofA (.bin .neq (.tmp 25) (.tmp 26)))⟩
  (.seq ⟨some 8, none, (.ofA (.mv (.tmp 27)))⟩
  .done))))))
 (.seq (.tree (.seq ⟨some 28, none, (.ofA (.mv (.tmp 3)))⟩
  (.seq ⟨some 29, none, (.ofA (.bin .quo (.tmp 28) (.cst (.v (.int .u32 2)))))⟩
  (.seq ⟨some 3, none, (.ofA (.mv (.tmp 29)))⟩
  .done))))
 (.seq (.tree (.seq ⟨some 30, none, (.ofA (.mv (.tmp 8)))⟩
  .done))
 (.cond (.tmp 30)
 (.tree (.seq ⟨some 31, none, (.ofA (.mv (.tmp 3)))⟩
  (.seq ⟨some 32, none, (.ofA (.bin .xor (.tmp 31) (.cst (.v (.int .u32 2197175160)))))⟩
  (.seq ⟨some 3, none, (.ofA (.mv (.tmp 32)))⟩
  .done))))
 .skip)))))))
 (.tree (.seq ⟨some 17, none, (.ofA (.mv (.tmp 6)))⟩
  (.seq ⟨some 18, none, (.ofA (.bin .add (.tmp 17) (.cst (.v (.int .i64 1)))))⟩
  (.seq ⟨some 6, none, (.ofA (.mv (.tmp 18)))⟩
  .done)))))))))))
 (.tree (.seq ⟨some 33, none, (.ofA (.bin .add (.tmp 11) (.cst (.v (.int .i64 1)))))⟩
  (.seq ⟨some 11, none, (.ofA (.mv (.tmp 33)))⟩
  .done)))))))))
 (.seq (.tree (.seq ⟨some 34, none, (.ofA (.mv (.tmp 3)))⟩
  (.seq ⟨some 35, none, (.ofA (.un .xor (.tmp 34)))⟩
  (.seq ⟨some 2, none, (.ofA (.mv (.tmp 35)))⟩
  .done))))
 .ret))))
def r199 : List XR := [.tmp 2]
theorem fn199 : FnX Try.prog 199 [123, 141, 170, 171, 192, 194, 195, 197, 206, 209, 210, 224, 225, 227, 245, 247] 36 x199 r199 := ⟨_, Try.func199, by kernel_rfl, by kernel_rfl, by kernel_rfl, by kernel_rfl⟩
-- almshouse/almshouseref01.Fits (2 parameters)
def x200 : XC := (.seq (.tree (.seq ⟨some 4, none, (.ofA (.mv (.cst (.v (.bool false)))))⟩
  .done))
 (.seq (.seq (.tree (.seq ⟨some 5, none, (.ofA (.mv (.tmp 1)))⟩
  .done))
 (.block 0 (.seq (.tree (.seq ⟨some 7, none, (.ofA (.bin .eql (.tmp 5) (.cst (.v (.int .i64 1)))))⟩
  (.seq ⟨some 6, none, (.ofA (.mv (.tmp 7)))⟩
  .done)))
 (.cond (.tmp 6)
 (.seq (.tree (.seq ⟨some 8, none, (.ofA (.mv (.tmp 0)))⟩
  (.seq ⟨some 9, none, (.ofA (.bin .geq (.tmp 8) (.cst (.v (.int .i64 0)))))⟩
  (.seq ⟨some 10, none, (.ofA (.mv (.tmp 9)))⟩
  (.seq ⟨some 11, some (10, true), (.ofA (.mv (.tmp 0)))⟩
  (.seq ⟨some 12, some (10, true), (.ofA (.bin .leq (.tmp 11) (.cst (.v (.int .i64 255)))))⟩
  (.seq ⟨some 13, none, (.ofA (.pick (.tmp 10) (.tmp 12) (.cst (.v (.bool false)))))⟩
  (.seq ⟨some 4, none, (.ofA (.mv (.tmp 13)))⟩
  .done))))))))
 .ret)
 (.seq (.tree (.seq ⟨some 15, none, (.ofA (.bin .eql (.tmp 5) (.cst (.v (.int .i64 2)))))⟩
  (.seq ⟨some 14, none, (.ofA (.mv (.tmp 15)))⟩
  .done)))
 (.cond (.tmp 14)
 (.seq (.tree (.seq ⟨some 16, none, (.ofA (.mv (.tmp 0)))⟩
  (.seq ⟨some 17, none, (.ofA (.bin .geq (.tmp 16) (.cst (.v (.int .i64 0)))))⟩
  (.seq ⟨some 18, none, (.ofA (.mv (.tmp 17)))⟩
  (.seq ⟨some 19, some (18, true), (.ofA (.mv (.tmp 0)))⟩
  (.seq ⟨some 20, some (18, true), (.ofA (.bin .leq (.tmp 19) (.cst (.v (.int .i64 65535)))))⟩
  (.seq ⟨some 21, none, (.ofA (.pick (.tmp 18) (.tmp 20) (.cst (.v (.bool false)))))⟩
  (.seq ⟨some 4, none, (.ofA (.mv (.tmp 21)))⟩
  .done))))))))
 .ret)
 (.seq (.tree (.seq ⟨some 23, none, (.ofA (.bin .eql (.tmp 5) (.cst (.v (.int .i64 4)))))⟩
  (.seq ⟨some 22, none, (.ofA (.mv (.tmp 23)))⟩
  .done)))
 (.cond (.tmp 22)
 (.seq (.tree (.seq ⟨some 24, none, (.ofA (.mv (.tmp 0)))⟩
  (.seq ⟨some 25, none, (.ofA (.bin .geq (.tmp 24) (.cst (.v (.int .i64 0)))))⟩
  (.seq ⟨some 26, none, (.ofA (.mv (.tmp 25)))⟩
  (.seq ⟨some 27, some (26, true), (.ofA (.mv (.tmp 0)))⟩
  (.seq ⟨some 28, some (26, true), (.ofA (.bin .leq (.tmp 27) (.cst (.v (.int .i64 4294967295)))))⟩
  (.seq ⟨some 29, none, (.ofA (.pick (.tmp 26) (.tmp 28) (.cst (.v (.bool false)))))⟩
  (.seq ⟨some 4, none, (.ofA (.mv (.tmp 29)))⟩
  .done))))))))
 .ret)
 .skip))))))))
 (.seq (.tree (.seq ⟨some 4, none, (.ofA (.mv (.cst (.v (.bool false)))))⟩
  .done))
 .ret)))
def r200 : List XR := [.tmp 4]
theorem fn200 : FnX Try.prog 200 [123, 141, 170, 171, 192, 194, 195, 197, 206, 209, 210, 224, 225, 227, 245, 247] 30 x200 r200 := ⟨_, Try.func200, by kernel_rfl, by kernel_rfl, by kernel_rfl, by kernel_rfl⟩
-- slices.Clone[[]int,int] (1 parameters)
def x208 : XC := (.seq (.tree (.seq ⟨some 2, none, (.ofA (.mv (.cst (.v (.slice none 0 0)))))⟩
  .done))
 (.seq (.seq (.tree (.seq ⟨some 3, none, (.ofA (.mv (.tmp 0)))⟩
  (.seq ⟨some 4, none, (.ofA (.eqn false 2 (.tmp 3) (.cst (.v (.slice none 0 0)))))⟩
  .done)))
 (.cond (.tmp 4)
 (.seq (.tree (.seq ⟨some 2, none, (.ofA (.mv (.cst (.v (.slice none 0 0)))))⟩
  .done))
 .ret)
 .skip))
 (.seq (.tree (.seq ⟨some 5, none, (.buildSl 1 0 [] [])⟩
  (.seq ⟨some 6, none, (.ofA (.mv (.tmp 0)))⟩
  (.seq ⟨some 7, none, (.app 1 8 (.tmp 5) (.tmp 6))⟩
  (.seq ⟨some 2, none, (.ofA (.mv (.tmp 7)))⟩
  .done)))))
 .ret)))
def r208 : List XR := [.tmp 2]
theorem fn208 : FnX Try.prog 208 [123, 141, 170, 171, 192, 194, 195, 197, 206, 209, 210, 224, 225, 227, 245, 247] 8 x208 r208 := ⟨_, Try.func208, by kernel_rfl, by kernel_rfl, by kernel_rfl, by kernel_rfl⟩
-- almshouse/almshouseref08.Right (1 parameters)
def x211 : XC := (.seq (.tree (.seq ⟨some 1, none, (.box (.tmp 0))⟩
  (.seq ⟨some 2, none, (.ofA (.mv (.cst (.v (.bool false)))))⟩
  .done)))
 (.seq (.tree (.seq ⟨some 3, none, (.ofA (.faddr 0 (.tmp 1)))⟩
  (.seq ⟨some 4, none, (.ofA (.load none (.tmp 3)))⟩
  (.seq ⟨some 5, none, (.ofA (.bin .geq (.tmp 4) (.cst (.v (.int .i64 0)))))⟩
  (.seq ⟨some 6, none, (.ofA (.mv (.tmp 5)))⟩
  (.seq ⟨some 7, some (6, true), (.ofA (.faddr 0 (.tmp 1)))⟩
  (.seq ⟨some 8, some (6, true), (.ofA (.load none (.tmp 7)))⟩
  (.seq ⟨some 9, some (6, true), (.ofA (.bin .leq (.tmp 8) (.cst (.v (.int .i64 3)))))⟩
  (.seq ⟨some 10, none, (.ofA (.pick (.tmp 6) (.tmp 9) (.cst (.v (.bool false)))))⟩
  (.seq ⟨some 11, none, (.ofA (.mv (.tmp 10)))⟩
  (.seq ⟨some 12, some (11, true), (.ofA (.faddr 1 (.tmp 1)))⟩
  (.seq ⟨some 13, some (11, true), (.ofA (.load none (.tmp 12)))⟩
  (.seq ⟨some 14, some (11, true), (.ofA (.bin .geq (.tmp 13) (.cst (.v (.int .i64 0)))))⟩
  (.seq ⟨some 15, none, (.ofA (.pick (.tmp 11) (.tmp 14) (.cst (.v (.bool false)))))⟩
  (.seq ⟨some 16, none, (.ofA (.mv (.tmp 15)))⟩
  (.seq ⟨some 17, some (16, true), (.ofA (.faddr 1 (.tmp 1)))⟩
  (.seq ⟨some 18, some (16, true), (.ofA (.load none (.tmp 17)))⟩
  (.seq ⟨some 19, some (16, true), (.ofA (.bin .lss (.tmp 18) (.cst (.v (.int .i64 2147483648)))))⟩
  (.seq ⟨some 20, none, (.ofA (.pick (.tmp 16) (.tmp 19) (.cst (.v (.bool false)))))⟩
  (.seq ⟨some 21, none, (.ofA (.mv (.tmp 20)))⟩
  (.seq ⟨some 22, some (21, true), (.ofA (.faddr 2 (.tmp 1)))⟩
  (.seq ⟨some 23, some (21, true), (.ofA (.load none (.tmp 22)))⟩
  (.seq ⟨some 24, some (21, true), (.ofA (.bin .geq (.tmp 23) (.cst (.v (.int .i64 0)))))⟩
  (.seq ⟨some 25, none, (.ofA (.pick (.tmp 21) (.tmp 24) (.cst (.v (.bool false)))))⟩
  (.seq ⟨some 26, none, (.ofA (.mv (.tmp 25)))⟩
  (.seq ⟨some 27, some (26, true), (.ofA (.faddr 2 (.tmp 1)))⟩
  (.seq ⟨some 28, some (26, true), (.ofA (.load none (.tmp 27)))⟩
  (.seq ⟨some 29, some (26, true), (.ofA (.bin .leq (.tmp 28) (.cst (.v (.int .i64 63)))))⟩
  (.seq ⟨some 30, none, (.ofA (.pick (.tmp 26) (.tmp 29) (.cst (.v (.bool false)))))⟩
  (.seq ⟨some 31, none, (.ofA (.mv (.tmp 30)))⟩
  (.seq ⟨some 32, some (31, true), (.ofA (.faddr 3 (.tmp 1)))⟩
  (.seq ⟨some 33, some (31, true), (.ofA (.load none (.tmp 32)))⟩
  (.seq ⟨some 34, some (31, true), (.ofA (.bin .geq (.tmp 33) (.cst (.v (.int .i64 0)))))⟩
  (.seq ⟨some 35, none, (.ofA (.pick (.tmp 31) (.tmp 34) (.cst (.v (.bool false)))))⟩
  (.seq ⟨some 36, none, (.ofA (.mv (.tmp 35)))⟩
  (.seq ⟨some 37, some (36, true), (.ofA (.faddr 3 (.tmp 1)))⟩
  (.seq ⟨some 38, some (36, true), (.ofA (.load none (.tmp 37)))⟩
  (.seq ⟨some 39, some (36, true), (.ofA (.bin .lss (.tmp 38) (.cst (.v (.int .i64 2147483648)))))⟩
  (.seq ⟨some 40, none, (.ofA (.pick (.tmp 36) (.tmp 39) (.cst (.v (.bool false)))))⟩
  (.seq ⟨some 41, none, (.ofA (.mv (.tmp 40)))⟩
  (.seq ⟨some 42, some (41, true), (.ofA (.faddr 4 (.tmp 1)))⟩
  (.seq ⟨some 43, some (41, true), (.ofA (.load none (.tmp 42)))⟩
  (.seq ⟨some 44, some (41, true), (.ofA (.bin .eql (.tmp 43) (.cst (.v (.int .i64 1)))))⟩
  (.seq ⟨some 45, some (41, true), (.ofA (.mv (.tmp 44)))⟩
  (.seq ⟨some 46, some (45, false), (.ofA (.faddr 4 (.tmp 1)))⟩
  (.seq ⟨some 47, some (45, false), (.ofA (.load none (.tmp 46)))⟩
  (.seq ⟨some 48, some (45, false), (.ofA (.bin .eql (.tmp 47) (.cst (.v (.int .i64 2)))))⟩
  (.seq ⟨some 49, some (41, true), (.ofA (.pick (.tmp 45) (.cst (.v (.bool true))) (.tmp 48)))⟩
  (.seq ⟨some 50, none, (.ofA (.pick (.tmp 41) (.tmp 49) (.cst (.v (.bool false)))))⟩
  (.seq ⟨some 2, none, (.ofA (.mv (.tmp 50)))⟩
  .done))))))))))))))))))))))))))))))))))))))))))))))))))
 .ret))
def r211 : List XR := [.tmp 2]
theorem fn211 : FnX Try.prog 211 [123, 141, 170, 171, 192, 194, 195, 197, 206, 209, 210, 224, 225, 227, 245, 247] 51 x211 r211 := ⟨_, Try.func211, by kernel_rfl, by kernel_rfl, by kernel_rfl, by kernel_rfl⟩
-- (*almshouse/power.Power).Gone (1 parameters)
def x212 : XC := (.seq (.tree (.seq ⟨some 2, none, (.ofA (.mv (.cst (.v (.bool false)))))⟩
  .done))
 (.seq (.tree (.seq ⟨some 3, none, (.ofA (.mv (.tmp 0)))⟩
  (.seq ⟨some 4, none, (.ofA (.eqn false 1 (.tmp 3) (.cst (.v (.pointer none)))))⟩
  (.seq ⟨some 5, none, (.ofA (.mv (.tmp 4)))⟩
  (.seq ⟨some 6, some (5, false), (.ofA (.mv (.tmp 0)))⟩
  (.seq ⟨some 7, some (5, false), (.ofA (.nilc (.tmp 6)))⟩
  (.seq ⟨some 8, some (5, false), (.ofA (.faddr 1 (.tmp 7)))⟩
  (.seq ⟨some 9, some (5, false), (.call (.cst (.fn 230 [])) [(.tmp 8)])⟩
  (.seq ⟨some 10, none, (.ofA (.pick (.tmp 5) (.cst (.v (.bool true))) (.tmp 9)))⟩
  (.seq ⟨some 2, none, (.ofA (.mv (.tmp 10)))⟩
  .done))))))))))
 .ret))
def r212 : List XR := [.tmp 2]
theorem fn212 : FnX Try.prog 212 [123, 141, 170, 171, 192, 194, 195, 197, 206, 209, 210, 224, 225, 227, 245, 247] 11 x212 r212 := ⟨_, Try.func212, by kernel_rfl, by kernel_rfl, by kernel_rfl, by kernel_rfl⟩
-- almshouse/frame.Whole (2 parameters)
def x213 : XC := (.seq (.tree (.seq ⟨some 4, none, (.ofA (.mv (.cst (.v (.slice none 0 0)))))⟩
  (.seq ⟨some 5, none, (.ofA (.mv (.cst (.v (.int .i64 0)))))⟩
  .done)))
 (.seq (.tree (.seq ⟨some 11, none, (.ofA (.mv (.tmp 0)))⟩
  (.seq ⟨some 12, none, (.call (.cst (.fn 190 [])) [(.tmp 11)])⟩
  (.seq ⟨some 10, none, (.ofA (.mv (.tmp 12)))⟩
  (.seq ⟨some 13, none, (.ofA (.extract 0 (.tmp 10)))⟩
  (.seq ⟨some 14, none, (.ofA (.extract 1 (.tmp 10)))⟩
  (.seq ⟨some 15, none, (.ofA (.extract 2 (.tmp 10)))⟩
  (.seq ⟨some 16, none, (.ofA (.extract 3 (.tmp 10)))⟩
  (.seq ⟨some 6, none, (.ofA (.mv (.tmp 13)))⟩
  (.seq ⟨some 7, none, (.ofA (.mv (.tmp 14)))⟩
  (.seq ⟨some 8, none, (.ofA (.mv (.tmp 15)))⟩
  (.seq ⟨some 9, none, (.ofA (.mv (.tmp 16)))⟩
  .done))))))))))))
 (.seq (.block 0 (.seq (.tree (.seq ⟨some 18, none, (.ofA (.mv (.tmp 9)))⟩
  (.seq ⟨some 19, none, (.ofA (.bin .neq (.tmp 18) (.cst (.v (.int .i64 0)))))⟩
  (.seq ⟨some 17, none, (.ofA (.mv (.tmp 19)))⟩
  .done))))
 (.cond (.tmp 17)
 (.seq (.tree (.seq ⟨some 20, none, (.ofA (.mv (.tmp 9)))⟩
  (.seq ⟨some 4, none, (.ofA (.mv (.cst (.v (.slice none 0 0)))))⟩
  (.seq ⟨some 5, none, (.ofA (.mv (.tmp 20)))⟩
  .done))))
 .ret)
 (.seq (.tree (.seq ⟨some 22, none, (.ofA (.mv (.tmp 8)))⟩
  (.seq ⟨some 23, none, (.ofA (.mv (.tmp 0)))⟩
  (.seq ⟨some 24, none, (.ofA (.len (.tmp 23)))⟩
  (.seq ⟨some 25, none, (.ofA (.bin .neq (.tmp 22) (.tmp 24)))⟩
  (.seq ⟨some 26, none, (.ofA (.mv (.tmp 25)))⟩
  (.seq ⟨some 27, some (26, false), (.ofA (.mv (.tmp 6)))⟩
  (.seq ⟨some 28, some (26, false), (.ofA (.mv (.tmp 1)))⟩
  (.seq ⟨some 29, some (26, false), (.ofA (.bin .neq (.tmp 27) (.tmp 28)))⟩
  (.seq ⟨some 30, none, (.ofA (.pick (.tmp 26) (.cst (.v (.bool true))) (.tmp 29)))⟩
  (.seq ⟨some 21, none, (.ofA (.mv (.tmp 30)))⟩
  .done)))))))))))
 (.cond (.tmp 21)
 (.seq (.tree (.seq ⟨some 4, none, (.ofA (.mv (.cst (.v (.slice none 0 0)))))⟩
  (.seq ⟨some 5, none, (.ofA (.mv (.cst (.v (.int .i64 2)))))⟩
  .done)))
 .ret)
 .skip)))))
 (.seq (.tree (.seq ⟨some 31, none, (.ofA (.mv (.tmp 7)))⟩
  (.seq ⟨some 4, none, (.ofA (.mv (.tmp 31)))⟩
  (.seq ⟨some 5, none, (.ofA (.mv (.cst (.v (.int .i64 0)))))⟩
  .done))))
 .ret))))
def r213 : List XR := [.tmp 4, .tmp 5]
theorem fn213 : FnX Try.prog 213 [123, 141, 170, 171, 192, 194, 195, 197, 206, 209, 210, 224, 225, 227, 245, 247] 32 x213 r213 := ⟨_, Try.func213, by kernel_rfl, by kernel_rfl, by kernel_rfl, by kernel_rfl⟩
-- almshouse/tag.Right (1 parameters)
def x214 : XC := (.seq (.tree (.seq ⟨some 1, none, (.box (.tmp 0))⟩
  (.seq ⟨some 2, none, (.ofA (.mv (.cst (.v (.bool false)))))⟩
  .done)))
 (.seq (.tree (.seq ⟨some 3, none, (.ofA (.faddr 0 (.tmp 1)))⟩
  (.seq ⟨some 4, none, (.ofA (.load none (.tmp 3)))⟩
  (.seq ⟨some 5, none, (.call (.cst (.fn 231 [])) [(.tmp 4), (.cst (.v (.int .i64 3)))])⟩
  (.seq ⟨some 6, none, (.ofA (.mv (.tmp 5)))⟩
  (.seq ⟨some 7, some (6, true), (.ofA (.faddr 1 (.tmp 1)))⟩
  (.seq ⟨some 8, some (6, true), (.ofA (.load none (.tmp 7)))⟩
  (.seq ⟨some 9, some (6, true), (.call (.cst (.fn 231 [])) [(.tmp 8), (.cst (.v (.int .i64 2147483647)))])⟩
  (.seq ⟨some 10, none, (.ofA (.pick (.tmp 6) (.tmp 9) (.cst (.v (.bool false)))))⟩
  (.seq ⟨some 11, none, (.ofA (.mv (.tmp 10)))⟩
  (.seq ⟨some 12, some (11, true), (.ofA (.faddr 2 (.tmp 1)))⟩
  (.seq ⟨some 13, some (11, true), (.ofA (.load none (.tmp 12)))⟩
  (.seq ⟨some 14, some (11, true), (.call (.cst (.fn 231 [])) [(.tmp 13), (.cst (.v (.int .i64 63)))])⟩
  (.seq ⟨some 15, none, (.ofA (.pick (.tmp 11) (.tmp 14) (.cst (.v (.bool false)))))⟩
  (.seq ⟨some 16, none, (.ofA (.mv (.tmp 15)))⟩
  (.seq ⟨some 17, some (16, true), (.ofA (.faddr 3 (.tmp 1)))⟩
  (.seq ⟨some 18, some (16, true), (.ofA (.load none (.tmp 17)))⟩
  (.seq ⟨some 19, some (16, true), (.call (.cst (.fn 231 [])) [(.tmp 18), (.cst (.v (.int .i64 2147483647)))])⟩
  (.seq ⟨some 20, none, (.ofA (.pick (.tmp 16) (.tmp 19) (.cst (.v (.bool false)))))⟩
  (.seq ⟨some 21, none, (.ofA (.mv (.tmp 20)))⟩
  (.seq ⟨some 22, some (21, true), (.ofA (.faddr 4 (.tmp 1)))⟩
  (.seq ⟨some 23, some (21, true), (.ofA (.load none (.tmp 22)))⟩
  (.seq ⟨some 24, some (21, true), (.ofA (.bin .eql (.tmp 23) (.cst (.v (.int .i64 1)))))⟩
  (.seq ⟨some 25, some (21, true), (.ofA (.mv (.tmp 24)))⟩
  (.seq ⟨some 26, some (25, false), (.ofA (.faddr 4 (.tmp 1)))⟩
  (.seq ⟨some 27, some (25, false), (.ofA (.load none (.tmp 26)))⟩
  (.seq ⟨some 28, some (25, false), (.ofA (.bin .eql (.tmp 27) (.cst (.v (.int .i64 2)))))⟩
  (.seq ⟨some 29, some (21, true), (.ofA (.pick (.tmp 25) (.cst (.v (.bool true))) (.tmp 28)))⟩
  (.seq ⟨some 30, none, (.ofA (.pick (.tmp 21) (.tmp 29) (.cst (.v (.bool false)))))⟩
  (.seq ⟨some 2, none, (.ofA (.mv (.tmp 30)))⟩
  .done))))))))))))))))))))))))))))))
 .ret))
def r214 : List XR := [.tmp 2]
theorem fn214 : FnX Try.prog 214 [123, 141, 170, 171, 192, 194, 195, 197, 206, 209, 210, 224, 225, 227, 245, 247] 31 x214 r214 := ⟨_, Try.func214, by kernel_rfl, by kernel_rfl, by kernel_rfl, by kernel_rfl⟩
-- (*almshouse/word.Reader).Left (1 parameters)
def x219 : XC := (.seq (.tree (.seq ⟨some 2, none, (.ofA (.mv (.cst (.v (.int .i64 0)))))⟩
  .done))
 (.seq (.seq (.tree (.seq ⟨some 3, none, (.ofA (.mv (.tmp 0)))⟩
  (.seq ⟨some 4, none, (.ofA (.eqn false 1 (.tmp 3) (.cst (.v (.pointer none)))))⟩
  .done)))
 (.cond (.tmp 4)
 (.seq (.tree (.seq ⟨some 2, none, (.ofA (.mv (.cst (.v (.int .i64 0)))))⟩
  .done))
 .ret)
 .skip))
 (.seq (.tree (.seq ⟨some 5, none, (.ofA (.mv (.tmp 0)))⟩
  (.seq ⟨some 6, none, (.ofA (.nilc (.tmp 5)))⟩
  (.seq ⟨some 7, none, (.ofA (.faddr 0 (.tmp 6)))⟩
  (.seq ⟨some 8, none, (.ofA (.load none (.tmp 7)))⟩
  (.seq ⟨some 9, none, (.ofA (.len (.tmp 8)))⟩
  (.seq ⟨some 2, none, (.ofA (.mv (.tmp 9)))⟩
  .done)))))))
 .ret)))
def r219 : List XR := [.tmp 2]
theorem fn219 : FnX Try.prog 219 [123, 141, 170, 171, 192, 194, 195, 197, 206, 209, 210, 224, 225, 227, 245, 247] 10 x219 r219 := ⟨_, Try.func219, by kernel_rfl, by kernel_rfl, by kernel_rfl, by kernel_rfl⟩
-- (*sync/atomic.Int64).Load (1 parameters)
def x226 : XC := (.seq (.tree (.seq ⟨some 2, none, (.ofA (.mv (.cst (.v (.int .i64 0)))))⟩
  .done))
 (.seq (.tree (.seq ⟨some 3, none, (.ofA (.mv (.tmp 0)))⟩
  (.seq ⟨some 4, none, (.ofA (.nilc (.tmp 3)))⟩
  (.seq ⟨some 5, none, (.ofA (.faddr 0 (.tmp 4)))⟩
  (.seq ⟨some 6, none, (.call (.cst (.fn 246 [])) [(.tmp 5)])⟩
  (.seq ⟨some 2, none, (.ofA (.mv (.tmp 6)))⟩
  .done))))))
 .ret))
def r226 : List XR := [.tmp 2]
theorem fn226 : FnX Try.prog 226 [123, 141, 170, 171, 192, 194, 195, 197, 206, 209, 210, 224, 225, 227, 245, 247] 7 x226 r226 := ⟨_, Try.func226, by kernel_rfl, by kernel_rfl, by kernel_rfl, by kernel_rfl⟩
-- (*almshouse/draws.Draws).of (2 parameters)
def x228 : XC := (.seq (.tree (.seq ⟨some 4, none, (.ofA (.mv (.cst (.v (.pointer none)))))⟩
  .done))
 (.seq (.seq (.tree (.seq ⟨some 5, none, (.ofA (.mv (.tmp 0)))⟩
  (.seq ⟨some 6, none, (.ofA (.eqn false 1 (.tmp 5) (.cst (.v (.pointer none)))))⟩
  (.seq ⟨some 7, none, (.ofA (.mv (.tmp 6)))⟩
  (.seq ⟨some 8, some (7, false), (.ofA (.mv (.tmp 1)))⟩
  (.seq ⟨some 9, some (7, false), (.ofA (.bin .lss (.tmp 8) (.cst (.v (.int .i64 0)))))⟩
  (.seq ⟨some 10, none, (.ofA (.pick (.tmp 7) (.cst (.v (.bool true))) (.tmp 9)))⟩
  (.seq ⟨some 11, none, (.ofA (.mv (.tmp 10)))⟩
  (.seq ⟨some 12, some (11, false), (.ofA (.mv (.tmp 1)))⟩
  (.seq ⟨some 13, some (11, false), (.ofA (.bin .geq (.tmp 12) (.cst (.v (.int .i64 4)))))⟩
  (.seq ⟨some 14, none, (.ofA (.pick (.tmp 11) (.cst (.v (.bool true))) (.tmp 13)))⟩
  .done)))))))))))
 (.cond (.tmp 14)
 (.seq (.tree (.seq ⟨some 4, none, (.ofA (.mv (.cst (.v (.pointer none)))))⟩
  .done))
 .ret)
 .skip))
 (.seq (.tree (.seq ⟨some 15, none, (.ofA (.mv (.tmp 0)))⟩
  (.seq ⟨some 16, none, (.ofA (.mv (.tmp 1)))⟩
  (.seq ⟨some 17, none, (.ofA (.nilc (.tmp 15)))⟩
  (.seq ⟨some 18, none, (.ofA (.faddr 0 (.tmp 17)))⟩
  (.seq ⟨some 19, none, (.ofA (.iarr 4 3 (.tmp 18) (.tmp 16)))⟩
  (.seq ⟨some 4, none, (.ofA (.mv (.tmp 19)))⟩
  .done)))))))
 .ret)))
def r228 : List XR := [.tmp 4]
theorem fn228 : FnX Try.prog 228 [123, 141, 170, 171, 192, 194, 195, 197, 206, 209, 210, 224, 225, 227, 245, 247] 20 x228 r228 := ⟨_, Try.func228, by kernel_rfl, by kernel_rfl, by kernel_rfl, by kernel_rfl⟩
-- slices.Contains[[]int,int] (2 parameters)
def x229 : XC := (.seq (.tree (.seq ⟨some 4, none, (.ofA (.mv (.cst (.v (.bool false)))))⟩
  .done))
 (.seq (.tree (.seq ⟨some 5, none, (.ofA (.mv (.tmp 0)))⟩
  (.seq ⟨some 6, none, (.ofA (.mv (.tmp 1)))⟩
  (.seq ⟨some 7, none, (.call (.cst (.fn 249 [])) [(.tmp 5), (.tmp 6)])⟩
  (.seq ⟨some 8, none, (.ofA (.bin .geq (.tmp 7) (.cst (.v (.int .i64 0)))))⟩
  (.seq ⟨some 4, none, (.ofA (.mv (.tmp 8)))⟩
  .done))))))
 .ret))
def r229 : List XR := [.tmp 4]
theorem fn229 : FnX Try.prog 229 [123, 141, 170, 171, 192, 194, 195, 197, 206, 209, 210, 224, 225, 227, 245, 247] 9 x229 r229 := ⟨_, Try.func229, by kernel_rfl, by kernel_rfl, by kernel_rfl, by kernel_rfl⟩
-- (*sync/atomic.Bool).Load (1 parameters)
def x230 : XC := (.seq (.tree (.seq ⟨some 2, none, (.ofA (.mv (.cst (.v (.bool false)))))⟩
  .done))
 (.seq (.tree (.seq ⟨some 3, none, (.ofA (.mv (.tmp 0)))⟩
  (.seq ⟨some 4, none, (.ofA (.nilc (.tmp 3)))⟩
  (.seq ⟨some 5, none, (.ofA (.faddr 0 (.tmp 4)))⟩
  (.seq ⟨some 6, none, (.call (.cst (.fn 250 [])) [(.tmp 5)])⟩
  (.seq ⟨some 7, none, (.ofA (.bin .neq (.tmp 6) (.cst (.v (.int .u32 0)))))⟩
  (.seq ⟨some 2, none, (.ofA (.mv (.tmp 7)))⟩
  .done)))))))
 .ret))
def r230 : List XR := [.tmp 2]
theorem fn230 : FnX Try.prog 230 [123, 141, 170, 171, 192, 194, 195, 197, 206, 209, 210, 224, 225, 227, 245, 247] 8 x230 r230 := ⟨_, Try.func230, by kernel_rfl, by kernel_rfl, by kernel_rfl, by kernel_rfl⟩
-- almshouse/tag.within (2 parameters)
def x231 : XC := (.seq (.tree (.seq ⟨some 4, none, (.ofA (.mv (.cst (.v (.bool false)))))⟩
  .done))
 (.seq (.tree (.seq ⟨some 5, none, (.ofA (.mv (.tmp 0)))⟩
  (.seq ⟨some 6, none, (.ofA (.bin .geq (.tmp 5) (.cst (.v (.int .i64 0)))))⟩
  (.seq ⟨some 7, none, (.ofA (.mv (.tmp 6)))⟩
  (.seq ⟨some 8, some (7, true), (.ofA (.mv (.tmp 0)))⟩
  (.seq ⟨some 9, some (7, true), (.ofA (.mv (.tmp 1)))⟩
  (.seq ⟨some 10, some (7, true), (.ofA (.bin .leq (.tmp 8) (.tmp 9)))⟩
  (.seq ⟨some 11, none, (.ofA (.pick (.tmp 7) (.tmp 10) (.cst (.v (.bool false)))))⟩
  (.seq ⟨some 4, none, (.ofA (.mv (.tmp 11)))⟩
  .done)))))))))
 .ret))
def r231 : List XR := [.tmp 4]
theorem fn231 : FnX Try.prog 231 [123, 141, 170, 171, 192, 194, 195, 197, 206, 209, 210, 224, 225, 227, 245, 247] 12 x231 r231 := ⟨_, Try.func231, by kernel_rfl, by kernel_rfl, by kernel_rfl, by kernel_rfl⟩
-- sync/atomic.b32 (1 parameters)
def x248 : XC := (.seq (.tree (.seq ⟨some 2, none, (.ofA (.mv (.cst (.v (.int .u32 0)))))⟩
  .done))
 (.seq (.seq (.tree (.seq ⟨some 3, none, (.ofA (.mv (.tmp 0)))⟩
  .done))
 (.cond (.tmp 3)
 (.seq (.tree (.seq ⟨some 2, none, (.ofA (.mv (.cst (.v (.int .u32 1)))))⟩
  .done))
 .ret)
 .skip))
 (.seq (.tree (.seq ⟨some 2, none, (.ofA (.mv (.cst (.v (.int .u32 0)))))⟩
  .done))
 .ret)))
def r248 : List XR := [.tmp 2]
theorem fn248 : FnX Try.prog 248 [123, 141, 170, 171, 192, 194, 195, 197, 206, 209, 210, 224, 225, 227, 245, 247] 4 x248 r248 := ⟨_, Try.func248, by kernel_rfl, by kernel_rfl, by kernel_rfl, by kernel_rfl⟩
-- slices.Index[[]int,int] (2 parameters)
def x249 : XC := (.seq (.tree (.seq ⟨some 4, none, (.ofA (.mv (.cst (.v (.int .i64 0)))))⟩
  .done))
 (.seq (.seq (.tree (.seq ⟨some 6, none, (.ofA (.mv (.tmp 0)))⟩
  (.seq ⟨some 7, none, (.ofA (.len (.tmp 6)))⟩
  (.seq ⟨some 8, none, (.ofA (.mv (.cst (.v (.int .i64 0)))))⟩
  .done))))
 (.block 0 (.loop (.seq (.tree (.seq ⟨some 9, none, (.ofA (.bin .lss (.tmp 8) (.tmp 7)))⟩
  .done))
 (.seq (.cond (.tmp 9)
 .skip
 (.exit 0))
 (.seq (.block 1 (.seq (.tree (.seq ⟨some 10, none, (.ofA (.mv (.tmp 8)))⟩
  (.seq ⟨some 5, none, (.ofA (.mv (.tmp 10)))⟩
  .done)))
 (.seq (.tree (.seq ⟨some 11, none, (.ofA (.mv (.tmp 1)))⟩
  (.seq ⟨some 12, none, (.ofA (.mv (.tmp 0)))⟩
  (.seq ⟨some 13, none, (.ofA (.mv (.tmp 5)))⟩
  (.seq ⟨some 14, none, (.ofA (.isl 1 (.tmp 12) (.tmp 13)))⟩
  (.seq ⟨some 15, none, (.ofA (.load none (.tmp 14)))⟩
  (.seq ⟨some 16, none, (.ofA (.bin .eql (.tmp 11) (.tmp 15)))⟩
  .done)))))))
 (.cond (.tmp 16)
 (.seq (.tree (.seq ⟨some 17, none, (.ofA (.mv (.tmp 5)))⟩
  (.seq ⟨some 4, none, (.ofA (.mv (.tmp 17)))⟩
  .done)))
 .ret)
 .skip))))
 (.tree (.seq ⟨some 18, none, (.ofA (.bin .add (.tmp 8) (.cst (.v (.int .i64 1)))))⟩
  (.seq ⟨some 8, none, (.ofA (.mv (.tmp 18)))⟩
  .done)))))))))
 (.seq (.tree (.seq ⟨some 4, none, (.ofA (.mv (.cst (.v (.int .i64 (-1))))))⟩
  .done))
 .ret)))
def r249 : List XR := [.tmp 4]
theorem fn249 : FnX Try.prog 249 [123, 141, 170, 171, 192, 194, 195, 197, 206, 209, 210, 224, 225, 227, 245, 247] 19 x249 r249 := ⟨_, Try.func249, by kernel_rfl, by kernel_rfl, by kernel_rfl, by kernel_rfl⟩

-- (*almshouse/nand.Nand).Program (6 parameters)
def x123 : XC := (.seq (.tree (.seq ⟨some 9, none, (.box (.tmp 3))⟩
  (.seq ⟨some 12, none, (.ofA (.mv (.cst (.v (.int .i64 0)))))⟩
  .done)))
 (.seq (.tree (.seq ⟨some 15, none, (.ofA (.mv (.tmp 0)))⟩
  (.seq ⟨some 16, none, (.ofA (.mv (.tmp 2)))⟩
  (.seq ⟨some 17, none, (.call (.cst (.fn 169 [])) [(.tmp 15), (.tmp 16)])⟩
  (.seq ⟨some 13, none, (.alloc [(.v (.pointer none))])⟩
  (.seq ⟨none, none, (.store 1 (.tmp 13) (.tmp 17))⟩
  .done))))))
 (.seq (.block 0 (.seq (.tree (.seq ⟨some 19, none, (.ofA (.mv (.tmp 0)))⟩
  (.seq ⟨some 20, none, (.ofA (.eqn false 1 (.tmp 19) (.cst (.v (.pointer none)))))⟩
  (.seq ⟨some 18, none, (.ofA (.mv (.tmp 20)))⟩
  .done))))
 (.cond (.tmp 18)
 (.seq (.tree (.seq ⟨some 12, none, (.ofA (.mv (.cst (.v (.int .i64 1)))))⟩
  .done))
 .ret)
 (.seq (.tree (.take ⟨some 22, none, (.ofA (.load none (.tmp 13)))⟩
  (.take ⟨some 23, none, (.ofA (.eqn false 1 (.tmp 22) (.cst (.v (.pointer none)))))⟩
  (.take ⟨some 24, none, (.ofA (.mv (.tmp 23)))⟩
  (.take ⟨some 25, some (24, false), (.ofA (.load none (.tmp 9)))⟩
  (.take ⟨some 26, some (24, false), (.ofA (.bin .lss (.tmp 25) (.cst (.v (.int .i64 0)))))⟩
  (.take ⟨some 27, none, (.ofA (.pick (.tmp 24) (.cst (.v (.bool true))) (.tmp 26)))⟩
  (.take ⟨some 28, none, (.ofA (.mv (.tmp 27)))⟩
  (.take ⟨some 29, some (28, false), (.ofA (.load none (.tmp 9)))⟩
  (.take ⟨some 30, some (28, false), (.ofA (.load none (.tmp 13)))⟩
  (.take ⟨some 31, some (28, false), (.ofA (.nilc (.tmp 30)))⟩
  (.take ⟨some 32, some (28, false), (.ofA (.faddr 0 (.tmp 31)))⟩
  (.take ⟨some 33, some (28, false), (.ofA (.load none (.tmp 32)))⟩
  (.take ⟨some 34, some (28, false), (.ofA (.len (.tmp 33)))⟩
  (.take ⟨some 35, some (28, false), (.ofA (.bin .geq (.tmp 29) (.tmp 34)))⟩
  (.take ⟨some 36, none, (.ofA (.pick (.tmp 28) (.cst (.v (.bool true))) (.tmp 35)))⟩
  (.take ⟨some 21, none, (.ofA (.mv (.tmp 36)))⟩
  .done)))))))))))))))))
 (.cond (.tmp 21)
 (.seq (.tree (.seq ⟨some 12, none, (.ofA (.mv (.cst (.v (.int .i64 5)))))⟩
  .done))
 .ret)
 (.seq (.tree (.seq ⟨some 38, none, (.ofA (.mv (.tmp 4)))⟩
  (.seq ⟨some 39, none, (.ofA (.len (.tmp 38)))⟩
  (.seq ⟨some 40, none, (.ofA (.bin .gtr (.tmp 39) (.cst (.v (.int .i64 32)))))⟩
  (.seq ⟨some 41, none, (.ofA (.mv (.tmp 40)))⟩
  (.seq ⟨some 42, some (41, false), (.ofA (.mv (.tmp 5)))⟩
  (.seq ⟨some 43, some (41, false), (.ofA (.lens (.tmp 42)))⟩
  (.seq ⟨some 44, some (41, false), (.ofA (.bin .gtr (.tmp 43) (.cst (.v (.int .i64 160)))))⟩
  (.seq ⟨some 45, none, (.ofA (.pick (.tmp 41) (.cst (.v (.bool true))) (.tmp 44)))⟩
  (.seq ⟨some 37, none, (.ofA (.mv (.tmp 45)))⟩
  .done))))))))))
 (.cond (.tmp 37)
 (.seq (.tree (.seq ⟨some 12, none, (.ofA (.mv (.cst (.v (.int .i64 3)))))⟩
  .done))
 .ret)
 (.seq (.tree (.seq ⟨some 47, none, (.ofA (.load none (.tmp 13)))⟩
  (.seq ⟨some 48, none, (.ofA (.nilc (.tmp 47)))⟩
  (.seq ⟨some 49, none, (.ofA (.faddr 2 (.tmp 48)))⟩
  (.seq ⟨some 50, none, (.ofA (.load none (.tmp 49)))⟩
  (.seq ⟨some 46, none, (.ofA (.mv (.tmp 50)))⟩
  .done))))))
 (.cond (.tmp 46)
 (.seq (.tree (.seq ⟨some 12, none, (.ofA (.mv (.cst (.v (.int .i64 10)))))⟩
  .done))
 .ret)
 (.seq (.tree (.take ⟨some 52, none, (.ofA (.load none (.tmp 9)))⟩
  (.take ⟨some 53, none, (.ofA (.load none (.tmp 13)))⟩
  (.take ⟨some 54, none, (.ofA (.nilc (.tmp 53)))⟩
  (.take ⟨some 55, none, (.ofA (.faddr 1 (.tmp 54)))⟩
  (.take ⟨some 56, none, (.ofA (.load none (.tmp 55)))⟩
  (.take ⟨some 57, none, (.ofA (.bin .neq (.tmp 52) (.tmp 56)))⟩
  (.take ⟨some 51, none, (.ofA (.mv (.tmp 57)))⟩
  .done))))))))
 (.cond (.tmp 51)
 (.seq (.tree (.seq ⟨some 12, none, (.ofA (.mv (.cst (.v (.int .i64 9)))))⟩
  .done))
 .ret)
 .skip)))))))))))
 (.seq (.tree (.seq ⟨some 58, none, (.ofA (.mv (.tmp 0)))⟩
  (.seq ⟨some 59, none, (.ofA (.mv (.tmp 1)))⟩
  (.seq ⟨some 60, none, (.ofA (.mkfn 171 [(.tmp 13), (.tmp 9)]))⟩
  (.seq ⟨some 61, none, (.call (.cst (.fn 170 [])) [(.tmp 58), (.tmp 59), (.tmp 60)])⟩
  (.seq ⟨some 14, none, (.ofA (.mv (.tmp 61)))⟩
  .done))))))
 (.seq (.seq (.tree (.seq ⟨some 62, none, (.ofA (.mv (.tmp 14)))⟩
  (.seq ⟨some 63, none, (.ofA (.bin .eql (.tmp 62) (.cst (.v (.int .i64 0)))))⟩
  .done)))
 (.cond (.tmp 63)
 (.seq (.tree (.take ⟨some 69, none, (.ofA (.mv (.tmp 4)))⟩
  (.take ⟨some 71, none, (.ofA (.mv (.tmp 5)))⟩
  (.act false [(⟨some 64, none, (.ofA (.load none (.tmp 13)))⟩,
 (.take ⟨some 65, none, (.ofA (.nilc (.tmp 64)))⟩
  (.take ⟨some 66, none, (.ofA (.faddr 0 (.tmp 65)))⟩
  (.act false [(⟨some 67, none, (.ofA (.load none (.tmp 66)))⟩,
 (.act false [(⟨some 68, none, (.ofA (.load none (.tmp 9)))⟩,
 (.act false [(⟨some 70, none, (.call (.cst (.fn 172 [])) [(.tmp 69)])⟩,
 (.act false [(⟨some 72, none, (.build [(.v (.int .i64 0)), (.v (.slice none 0 0)), (.v (.string ⟨#[]⟩))] [(0, 1, (.cst (.v (.int .i64 1)))), (1, 1, (.tmp 70)), (2, 1, (.tmp 71))])⟩,
 (.take ⟨some 73, none, (.ofA (.isl 3 (.tmp 67) (.tmp 68)))⟩
  (.act false [(⟨none, none, (.store 3 (.tmp 73) (.tmp 72))⟩,
 .done)])))]))])), (⟨some 70, none, (.call (.cst (.fn 172 [])) [(.tmp 69)])⟩,
 (.act false [(⟨some 68, none, (.ofA (.load none (.tmp 9)))⟩,
 (.act false [(⟨some 72, none, (.build [(.v (.int .i64 0)), (.v (.slice none 0 0)), (.v (.string ⟨#[]⟩))] [(0, 1, (.cst (.v (.int .i64 1)))), (1, 1, (.tmp 70)), (2, 1, (.tmp 71))])⟩,
 (.take ⟨some 73, none, (.ofA (.isl 3 (.tmp 67) (.tmp 68)))⟩
  (.act false [(⟨none, none, (.store 3 (.tmp 73) (.tmp 72))⟩,
 .done)])))])), (⟨some 72, none, (.build [(.v (.int .i64 0)), (.v (.slice none 0 0)), (.v (.string ⟨#[]⟩))] [(0, 1, (.cst (.v (.int .i64 1)))), (1, 1, (.tmp 70)), (2, 1, (.tmp 71))])⟩,
 (.act false [(⟨some 68, none, (.ofA (.load none (.tmp 9)))⟩,
 (.take ⟨some 73, none, (.ofA (.isl 3 (.tmp 67) (.tmp 68)))⟩
  (.act false [(⟨none, none, (.store 3 (.tmp 73) (.tmp 72))⟩,
 .done)])))]))]))])), (⟨some 68, none, (.ofA (.load none (.tmp 9)))⟩,
 (.act false [(⟨some 67, none, (.ofA (.load none (.tmp 66)))⟩,
 (.act false [(⟨some 70, none, (.call (.cst (.fn 172 [])) [(.tmp 69)])⟩,
 (.act false [(⟨some 72, none, (.build [(.v (.int .i64 0)), (.v (.slice none 0 0)), (.v (.string ⟨#[]⟩))] [(0, 1, (.cst (.v (.int .i64 1)))), (1, 1, (.tmp 70)), (2, 1, (.tmp 71))])⟩,
 (.take ⟨some 73, none, (.ofA (.isl 3 (.tmp 67) (.tmp 68)))⟩
  (.act false [(⟨none, none, (.store 3 (.tmp 73) (.tmp 72))⟩,
 .done)])))]))])), (⟨some 70, none, (.call (.cst (.fn 172 [])) [(.tmp 69)])⟩,
 (.act false [(⟨some 67, none, (.ofA (.load none (.tmp 66)))⟩,
 (.act false [(⟨some 72, none, (.build [(.v (.int .i64 0)), (.v (.slice none 0 0)), (.v (.string ⟨#[]⟩))] [(0, 1, (.cst (.v (.int .i64 1)))), (1, 1, (.tmp 70)), (2, 1, (.tmp 71))])⟩,
 (.take ⟨some 73, none, (.ofA (.isl 3 (.tmp 67) (.tmp 68)))⟩
  (.act false [(⟨none, none, (.store 3 (.tmp 73) (.tmp 72))⟩,
 .done)])))])), (⟨some 72, none, (.build [(.v (.int .i64 0)), (.v (.slice none 0 0)), (.v (.string ⟨#[]⟩))] [(0, 1, (.cst (.v (.int .i64 1)))), (1, 1, (.tmp 70)), (2, 1, (.tmp 71))])⟩,
 (.act false [(⟨some 67, none, (.ofA (.load none (.tmp 66)))⟩,
 (.take ⟨some 73, none, (.ofA (.isl 3 (.tmp 67) (.tmp 68)))⟩
  (.act false [(⟨none, none, (.store 3 (.tmp 73) (.tmp 72))⟩,
 .done)])))]))]))])), (⟨some 70, none, (.call (.cst (.fn 172 [])) [(.tmp 69)])⟩,
 (.act false [(⟨some 67, none, (.ofA (.load none (.tmp 66)))⟩,
 (.act false [(⟨some 68, none, (.ofA (.load none (.tmp 9)))⟩,
 (.act false [(⟨some 72, none, (.build [(.v (.int .i64 0)), (.v (.slice none 0 0)), (.v (.string ⟨#[]⟩))] [(0, 1, (.cst (.v (.int .i64 1)))), (1, 1, (.tmp 70)), (2, 1, (.tmp 71))])⟩,
 (.take ⟨some 73, none, (.ofA (.isl 3 (.tmp 67) (.tmp 68)))⟩
  (.act false [(⟨none, none, (.store 3 (.tmp 73) (.tmp 72))⟩,
 .done)])))])), (⟨some 72, none, (.build [(.v (.int .i64 0)), (.v (.slice none 0 0)), (.v (.string ⟨#[]⟩))] [(0, 1, (.cst (.v (.int .i64 1)))), (1, 1, (.tmp 70)), (2, 1, (.tmp 71))])⟩,
 (.act false [(⟨some 68, none, (.ofA (.load none (.tmp 9)))⟩,
 (.take ⟨some 73, none, (.ofA (.isl 3 (.tmp 67) (.tmp 68)))⟩
  (.act false [(⟨none, none, (.store 3 (.tmp 73) (.tmp 72))⟩,
 .done)])))]))])), (⟨some 68, none, (.ofA (.load none (.tmp 9)))⟩,
 (.act false [(⟨some 67, none, (.ofA (.load none (.tmp 66)))⟩,
 (.act false [(⟨some 72, none, (.build [(.v (.int .i64 0)), (.v (.slice none 0 0)), (.v (.string ⟨#[]⟩))] [(0, 1, (.cst (.v (.int .i64 1)))), (1, 1, (.tmp 70)), (2, 1, (.tmp 71))])⟩,
 (.take ⟨some 73, none, (.ofA (.isl 3 (.tmp 67) (.tmp 68)))⟩
  (.act false [(⟨none, none, (.store 3 (.tmp 73) (.tmp 72))⟩,
 .done)])))])), (⟨some 72, none, (.build [(.v (.int .i64 0)), (.v (.slice none 0 0)), (.v (.string ⟨#[]⟩))] [(0, 1, (.cst (.v (.int .i64 1)))), (1, 1, (.tmp 70)), (2, 1, (.tmp 71))])⟩,
 (.act false [(⟨some 67, none, (.ofA (.load none (.tmp 66)))⟩,
 (.take ⟨some 73, none, (.ofA (.isl 3 (.tmp 67) (.tmp 68)))⟩
  (.act false [(⟨none, none, (.store 3 (.tmp 73) (.tmp 72))⟩,
 .done)])))]))])), (⟨some 72, none, (.build [(.v (.int .i64 0)), (.v (.slice none 0 0)), (.v (.string ⟨#[]⟩))] [(0, 1, (.cst (.v (.int .i64 1)))), (1, 1, (.tmp 70)), (2, 1, (.tmp 71))])⟩,
 (.act false [(⟨some 67, none, (.ofA (.load none (.tmp 66)))⟩,
 (.act false [(⟨some 68, none, (.ofA (.load none (.tmp 9)))⟩,
 (.take ⟨some 73, none, (.ofA (.isl 3 (.tmp 67) (.tmp 68)))⟩
  (.act false [(⟨none, none, (.store 3 (.tmp 73) (.tmp 72))⟩,
 .done)])))])), (⟨some 68, none, (.ofA (.load none (.tmp 9)))⟩,
 (.act false [(⟨some 67, none, (.ofA (.load none (.tmp 66)))⟩,
 (.take ⟨some 73, none, (.ofA (.isl 3 (.tmp 67) (.tmp 68)))⟩
  (.act false [(⟨none, none, (.store 3 (.tmp 73) (.tmp 72))⟩,
 .done)])))]))]))]))])))), (⟨some 68, none, (.ofA (.load none (.tmp 9)))⟩,
 (.act false [(⟨some 64, none, (.ofA (.load none (.tmp 13)))⟩,
 (.take ⟨some 65, none, (.ofA (.nilc (.tmp 64)))⟩
  (.take ⟨some 66, none, (.ofA (.faddr 0 (.tmp 65)))⟩
  (.act false [(⟨some 67, none, (.ofA (.load none (.tmp 66)))⟩,
 (.act false [(⟨some 70, none, (.call (.cst (.fn 172 [])) [(.tmp 69)])⟩,
 (.act false [(⟨some 72, none, (.build [(.v (.int .i64 0)), (.v (.slice none 0 0)), (.v (.string ⟨#[]⟩))] [(0, 1, (.cst (.v (.int .i64 1)))), (1, 1, (.tmp 70)), (2, 1, (.tmp 71))])⟩,
 (.take ⟨some 73, none, (.ofA (.isl 3 (.tmp 67) (.tmp 68)))⟩
  (.act false [(⟨none, none, (.store 3 (.tmp 73) (.tmp 72))⟩,
 .done)])))]))])), (⟨some 70, none, (.call (.cst (.fn 172 [])) [(.tmp 69)])⟩,
 (.act false [(⟨some 67, none, (.ofA (.load none (.tmp 66)))⟩,
 (.act false [(⟨some 72, none, (.build [(.v (.int .i64 0)), (.v (.slice none 0 0)), (.v (.string ⟨#[]⟩))] [(0, 1, (.cst (.v (.int .i64 1)))), (1, 1, (.tmp 70)), (2, 1, (.tmp 71))])⟩,
 (.take ⟨some 73, none, (.ofA (.isl 3 (.tmp 67) (.tmp 68)))⟩
  (.act false [(⟨none, none, (.store 3 (.tmp 73) (.tmp 72))⟩,
 .done)])))])), (⟨some 72, none, (.build [(.v (.int .i64 0)), (.v (.slice none 0 0)), (.v (.string ⟨#[]⟩))] [(0, 1, (.cst (.v (.int .i64 1)))), (1, 1, (.tmp 70)), (2, 1, (.tmp 71))])⟩,
 (.act false [(⟨some 67, none, (.ofA (.load none (.tmp 66)))⟩,
 (.take ⟨some 73, none, (.ofA (.isl 3 (.tmp 67) (.tmp 68)))⟩
  (.act false [(⟨none, none, (.store 3 (.tmp 73) (.tmp 72))⟩,
 .done)])))]))]))])))), (⟨some 70, none, (.call (.cst (.fn 172 [])) [(.tmp 69)])⟩,
 (.act false [(⟨some 64, none, (.ofA (.load none (.tmp 13)))⟩,
 (.take ⟨some 65, none, (.ofA (.nilc (.tmp 64)))⟩
  (.take ⟨some 66, none, (.ofA (.faddr 0 (.tmp 65)))⟩
  (.act false [(⟨some 67, none, (.ofA (.load none (.tmp 66)))⟩,
 (.act false [(⟨some 72, none, (.build [(.v (.int .i64 0)), (.v (.slice none 0 0)), (.v (.string ⟨#[]⟩))] [(0, 1, (.cst (.v (.int .i64 1)))), (1, 1, (.tmp 70)), (2, 1, (.tmp 71))])⟩,
 (.take ⟨some 73, none, (.ofA (.isl 3 (.tmp 67) (.tmp 68)))⟩
  (.act false [(⟨none, none, (.store 3 (.tmp 73) (.tmp 72))⟩,
 .done)])))])), (⟨some 72, none, (.build [(.v (.int .i64 0)), (.v (.slice none 0 0)), (.v (.string ⟨#[]⟩))] [(0, 1, (.cst (.v (.int .i64 1)))), (1, 1, (.tmp 70)), (2, 1, (.tmp 71))])⟩,
 (.act false [(⟨some 67, none, (.ofA (.load none (.tmp 66)))⟩,
 (.take ⟨some 73, none, (.ofA (.isl 3 (.tmp 67) (.tmp 68)))⟩
  (.act false [(⟨none, none, (.store 3 (.tmp 73) (.tmp 72))⟩,
 .done)])))]))])))), (⟨some 72, none, (.build [(.v (.int .i64 0)), (.v (.slice none 0 0)), (.v (.string ⟨#[]⟩))] [(0, 1, (.cst (.v (.int .i64 1)))), (1, 1, (.tmp 70)), (2, 1, (.tmp 71))])⟩,
 (.act false [(⟨some 64, none, (.ofA (.load none (.tmp 13)))⟩,
 (.take ⟨some 65, none, (.ofA (.nilc (.tmp 64)))⟩
  (.take ⟨some 66, none, (.ofA (.faddr 0 (.tmp 65)))⟩
  (.act false [(⟨some 67, none, (.ofA (.load none (.tmp 66)))⟩,
 (.take ⟨some 73, none, (.ofA (.isl 3 (.tmp 67) (.tmp 68)))⟩
  (.act false [(⟨none, none, (.store 3 (.tmp 73) (.tmp 72))⟩,
 .done)])))]))))]))]))])), (⟨some 70, none, (.call (.cst (.fn 172 [])) [(.tmp 69)])⟩,
 (.act false [(⟨some 64, none, (.ofA (.load none (.tmp 13)))⟩,
 (.take ⟨some 65, none, (.ofA (.nilc (.tmp 64)))⟩
  (.take ⟨some 66, none, (.ofA (.faddr 0 (.tmp 65)))⟩
  (.act false [(⟨some 67, none, (.ofA (.load none (.tmp 66)))⟩,
 (.act false [(⟨some 68, none, (.ofA (.load none (.tmp 9)))⟩,
 (.act false [(⟨some 72, none, (.build [(.v (.int .i64 0)), (.v (.slice none 0 0)), (.v (.string ⟨#[]⟩))] [(0, 1, (.cst (.v (.int .i64 1)))), (1, 1, (.tmp 70)), (2, 1, (.tmp 71))])⟩,
 (.take ⟨some 73, none, (.ofA (.isl 3 (.tmp 67) (.tmp 68)))⟩
  (.act false [(⟨none, none, (.store 3 (.tmp 73) (.tmp 72))⟩,
 .done)])))])), (⟨some 72, none, (.build [(.v (.int .i64 0)), (.v (.slice none 0 0)), (.v (.string ⟨#[]⟩))] [(0, 1, (.cst (.v (.int .i64 1)))), (1, 1, (.tmp 70)), (2, 1, (.tmp 71))])⟩,
 (.act false [(⟨some 68, none, (.ofA (.load none (.tmp 9)))⟩,
 (.take ⟨some 73, none, (.ofA (.isl 3 (.tmp 67) (.tmp 68)))⟩
  (.act false [(⟨none, none, (.store 3 (.tmp 73) (.tmp 72))⟩,
 .done)])))]))])), (⟨some 68, none, (.ofA (.load none (.tmp 9)))⟩,
 (.act false [(⟨some 67, none, (.ofA (.load none (.tmp 66)))⟩,
 (.act false [(⟨some 72, none, (.build [(.v (.int .i64 0)), (.v (.slice none 0 0)), (.v (.string ⟨#[]⟩))] [(0, 1, (.cst (.v (.int .i64 1)))), (1, 1, (.tmp 70)), (2, 1, (.tmp 71))])⟩,
 (.take ⟨some 73, none, (.ofA (.isl 3 (.tmp 67) (.tmp 68)))⟩
  (.act false [(⟨none, none, (.store 3 (.tmp 73) (.tmp 72))⟩,
 .done)])))])), (⟨some 72, none, (.build [(.v (.int .i64 0)), (.v (.slice none 0 0)), (.v (.string ⟨#[]⟩))] [(0, 1, (.cst (.v (.int .i64 1)))), (1, 1, (.tmp 70)), (2, 1, (.tmp 71))])⟩,
 (.act false [(⟨some 67, none, (.ofA (.load none (.tmp 66)))⟩,
 (.take ⟨some 73, none, (.ofA (.isl 3 (.tmp 67) (.tmp 68)))⟩
  (.act false [(⟨none, none, (.store 3 (.tmp 73) (.tmp 72))⟩,
 .done)])))]))])), (⟨some 72, none, (.build [(.v (.int .i64 0)), (.v (.slice none 0 0)), (.v (.string ⟨#[]⟩))] [(0, 1, (.cst (.v (.int .i64 1)))), (1, 1, (.tmp 70)), (2, 1, (.tmp 71))])⟩,
 (.act false [(⟨some 67, none, (.ofA (.load none (.tmp 66)))⟩,
 (.act false [(⟨some 68, none, (.ofA (.load none (.tmp 9)))⟩,
 (.take ⟨some 73, none, (.ofA (.isl 3 (.tmp 67) (.tmp 68)))⟩
  (.act false [(⟨none, none, (.store 3 (.tmp 73) (.tmp 72))⟩,
 .done)])))])), (⟨some 68, none, (.ofA (.load none (.tmp 9)))⟩,
 (.act false [(⟨some 67, none, (.ofA (.load none (.tmp 66)))⟩,
 (.take ⟨some 73, none, (.ofA (.isl 3 (.tmp 67) (.tmp 68)))⟩
  (.act false [(⟨none, none, (.store 3 (.tmp 73) (.tmp 72))⟩,
 .done)])))]))]))])))), (⟨some 68, none, (.ofA (.load none (.tmp 9)))⟩,
 (.act false [(⟨some 64, none, (.ofA (.load none (.tmp 13)))⟩,
 (.take ⟨some 65, none, (.ofA (.nilc (.tmp 64)))⟩
  (.take ⟨some 66, none, (.ofA (.faddr 0 (.tmp 65)))⟩
  (.act false [(⟨some 67, none, (.ofA (.load none (.tmp 66)))⟩,
 (.act false [(⟨some 72, none, (.build [(.v (.int .i64 0)), (.v (.slice none 0 0)), (.v (.string ⟨#[]⟩))] [(0, 1, (.cst (.v (.int .i64 1)))), (1, 1, (.tmp 70)), (2, 1, (.tmp 71))])⟩,
 (.take ⟨some 73, none, (.ofA (.isl 3 (.tmp 67) (.tmp 68)))⟩
  (.act false [(⟨none, none, (.store 3 (.tmp 73) (.tmp 72))⟩,
 .done)])))])), (⟨some 72, none, (.build [(.v (.int .i64 0)), (.v (.slice none 0 0)), (.v (.string ⟨#[]⟩))] [(0, 1, (.cst (.v (.int .i64 1)))), (1, 1, (.tmp 70)), (2, 1, (.tmp 71))])⟩,
 (.act false [(⟨some 67, none, (.ofA (.load none (.tmp 66)))⟩,
 (.take ⟨some 73, none, (.ofA (.isl 3 (.tmp 67) (.tmp 68)))⟩
  (.act false [(⟨none, none, (.store 3 (.tmp 73) (.tmp 72))⟩,
 .done)])))]))])))), (⟨some 72, none, (.build [(.v (.int .i64 0)), (.v (.slice none 0 0)), (.v (.string ⟨#[]⟩))] [(0, 1, (.cst (.v (.int .i64 1)))), (1, 1, (.tmp 70)), (2, 1, (.tmp 71))])⟩,
 (.act false [(⟨some 64, none, (.ofA (.load none (.tmp 13)))⟩,
 (.take ⟨some 65, none, (.ofA (.nilc (.tmp 64)))⟩
  (.take ⟨some 66, none, (.ofA (.faddr 0 (.tmp 65)))⟩
  (.act false [(⟨some 67, none, (.ofA (.load none (.tmp 66)))⟩,
 (.take ⟨some 73, none, (.ofA (.isl 3 (.tmp 67) (.tmp 68)))⟩
  (.act false [(⟨none, none, (.store 3 (.tmp 73) (.tmp 72))⟩,
 .done)])))]))))]))])), (⟨some 72, none, (.build [(.v (.int .i64 0)), (.v (.slice none 0 0)), (.v (.string ⟨#[]⟩))] [(0, 1, (.cst (.v (.int .i64 1)))), (1, 1, (.tmp 70)), (2, 1, (.tmp 71))])⟩,
 (.act false [(⟨some 64, none, (.ofA (.load none (.tmp 13)))⟩,
 (.take ⟨some 65, none, (.ofA (.nilc (.tmp 64)))⟩
  (.take ⟨some 66, none, (.ofA (.faddr 0 (.tmp 65)))⟩
  (.act false [(⟨some 67, none, (.ofA (.load none (.tmp 66)))⟩,
 (.act false [(⟨some 68, none, (.ofA (.load none (.tmp 9)))⟩,
 (.take ⟨some 73, none, (.ofA (.isl 3 (.tmp 67) (.tmp 68)))⟩
  (.act false [(⟨none, none, (.store 3 (.tmp 73) (.tmp 72))⟩,
 .done)])))])), (⟨some 68, none, (.ofA (.load none (.tmp 9)))⟩,
 (.act false [(⟨some 67, none, (.ofA (.load none (.tmp 66)))⟩,
 (.take ⟨some 73, none, (.ofA (.isl 3 (.tmp 67) (.tmp 68)))⟩
  (.act false [(⟨none, none, (.store 3 (.tmp 73) (.tmp 72))⟩,
 .done)])))]))])))), (⟨some 68, none, (.ofA (.load none (.tmp 9)))⟩,
 (.act false [(⟨some 64, none, (.ofA (.load none (.tmp 13)))⟩,
 (.take ⟨some 65, none, (.ofA (.nilc (.tmp 64)))⟩
  (.take ⟨some 66, none, (.ofA (.faddr 0 (.tmp 65)))⟩
  (.act false [(⟨some 67, none, (.ofA (.load none (.tmp 66)))⟩,
 (.take ⟨some 73, none, (.ofA (.isl 3 (.tmp 67) (.tmp 68)))⟩
  (.act false [(⟨none, none, (.store 3 (.tmp 73) (.tmp 72))⟩,
 .done)])))]))))]))]))]))]))))
 (.tree (.seq ⟨some 74, none, (.ofA (.load none (.tmp 13)))⟩
  (.seq ⟨some 75, none, (.ofA (.load none (.tmp 9)))⟩
  (.seq ⟨some 76, none, (.ofA (.bin .add (.tmp 75) (.cst (.v (.int .i64 1)))))⟩
  (.seq ⟨some 77, none, (.ofA (.nilc (.tmp 74)))⟩
  (.seq ⟨some 78, none, (.ofA (.faddr 1 (.tmp 77)))⟩
  (.seq ⟨none, none, (.store 1 (.tmp 78) (.tmp 76))⟩
  .done))))))))
 .skip))
 (.seq (.tree (.seq ⟨some 79, none, (.ofA (.mv (.tmp 14)))⟩
  (.seq ⟨some 12, none, (.ofA (.mv (.tmp 79)))⟩
  .done)))
 .ret))))))
def r123 : List XR := [.tmp 12]
theorem fn123 : FnX Try.prog 123 [123, 141, 170, 171, 192, 194, 195, 197, 206, 209, 210, 224, 225, 227, 245, 247] 80 x123 r123 := ⟨_, Try.func123, by kernel_rfl, by kernel_rfl, by kernel_rfl, by kernel_rfl⟩
-- (*almshouse/word.Reader).Number (2 parameters)
def x141 : XC := (.seq (.tree (.seq ⟨some 4, none, (.ofA (.mv (.cst (.v (.int .i64 0)))))⟩
  .done))
 (.seq (.seq (.tree (.seq ⟨some 8, none, (.ofA (.mv (.tmp 0)))⟩
  (.seq ⟨some 9, none, (.ofA (.eqn false 1 (.tmp 8) (.cst (.v (.pointer none)))))⟩
  (.seq ⟨some 10, none, (.ofA (.mv (.tmp 9)))⟩
  (.seq ⟨some 11, some (10, false), (.ofA (.mv (.tmp 1)))⟩
  (.seq ⟨some 12, some (10, false), (.call (.cst (.fn 193 [])) [(.tmp 11)])⟩
  (.seq ⟨some 13, some (10, false), (.ofA (.un .not (.tmp 12)))⟩
  (.seq ⟨some 14, some (10, false), (.ofA (.mv (.tmp 13)))⟩
  (.seq ⟨some 15, some (14, true), (.ofA (.mv (.tmp 0)))⟩
  (.seq ⟨some 16, some (14, true), (.call (.cst (.fn 194 [])) [(.tmp 15), (.cst (.v (.int .i64 1)))])⟩
  (.seq ⟨some 17, some (10, false), (.ofA (.pick (.tmp 14) (.tmp 16) (.cst (.v (.bool false)))))⟩
  (.seq ⟨some 18, none, (.ofA (.pick (.tmp 10) (.cst (.v (.bool true))) (.tmp 17)))⟩
  .done))))))))))))
 (.cond (.tmp 18)
 (.seq (.tree (.seq ⟨some 4, none, (.ofA (.mv (.cst (.v (.int .i64 0)))))⟩
  .done))
 .ret)
 .skip))
 (.seq (.tree (.seq ⟨some 5, none, (.ofA (.mv (.cst (.v (.int .i64 0)))))⟩
  .done))
 (.seq (.seq (.tree (.seq ⟨some 19, none, (.ofA (.mv (.tmp 0)))⟩
  (.seq ⟨some 20, none, (.ofA (.mv (.tmp 1)))⟩
  (.seq ⟨some 21, none, (.call (.cst (.fn 195 [])) [(.tmp 19), (.tmp 20)])⟩
  (.seq ⟨some 22, none, (.ofA (.len (.tmp 21)))⟩
  (.seq ⟨some 23, none, (.ofA (.mv (.cst (.v (.int .i64 0)))))⟩
  .done))))))
 (.block 0 (.loop (.seq (.tree (.seq ⟨some 24, none, (.ofA (.bin .lss (.tmp 23) (.tmp 22)))⟩
  .done))
 (.seq (.cond (.tmp 24)
 .skip
 (.exit 0))
 (.seq (.block 1 (.seq (.tree (.seq ⟨some 25, none, (.ofA (.mv (.tmp 23)))⟩
  (.seq ⟨some 26, none, (.ofA (.isl 1 (.tmp 21) (.tmp 23)))⟩
  (.seq ⟨some 27, none, (.ofA (.load none (.tmp 26)))⟩
  (.seq ⟨some 6, none, (.ofA (.mv (.tmp 25)))⟩
  (.seq ⟨some 7, none, (.ofA (.mv (.tmp 27)))⟩
  .done))))))
 (.tree (.seq ⟨some 28, none, (.ofA (.mv (.tmp 5)))⟩
  (.seq ⟨some 29, none, (.ofA (.mv (.tmp 7)))⟩
  (.seq ⟨some 30, none, (.ofA (.conv .i64 (.tmp 29)))⟩
  (.seq ⟨some 31, none, (.ofA (.mv (.tmp 6)))⟩
  (.seq ⟨some 32, none, (.ofA (.bin .mul (.cst (.v (.int .i64 8))) (.tmp 31)))⟩
  (.seq ⟨some 33, none, (.ofA (.conv .u64 (.tmp 32)))⟩
  (.seq ⟨some 34, none, (.ofA (.bin .shl (.tmp 30) (.tmp 33)))⟩
  (.seq ⟨some 35, none, (.ofA (.bin .or (.tmp 28) (.tmp 34)))⟩
  (.seq ⟨some 5, none, (.ofA (.mv (.tmp 35)))⟩
  .done))))))))))))
 (.tree (.seq ⟨some 36, none, (.ofA (.bin .add (.tmp 23) (.cst (.v (.int .i64 1)))))⟩
  (.seq ⟨some 23, none, (.ofA (.mv (.tmp 36)))⟩
  .done)))))))))
 (.seq (.tree (.seq ⟨some 37, none, (.ofA (.mv (.tmp 5)))⟩
  (.seq ⟨some 4, none, (.ofA (.mv (.tmp 37)))⟩
  .done)))
 .ret)))))
def r141 : List XR := [.tmp 4]
theorem fn141 : FnX Try.prog 141 [123, 141, 170, 171, 192, 194, 195, 197, 206, 209, 210, 224, 225, 227, 245, 247] 38 x141 r141 := ⟨_, Try.func141, by kernel_rfl, by kernel_rfl, by kernel_rfl, by kernel_rfl⟩
-- (*almshouse/nand.Nand).spend (3 parameters)
def x170 : XC := (.seq (.tree (.seq ⟨some 6, none, (.ofA (.mv (.cst (.v (.int .i64 0)))))⟩
  .done))
 (.seq (.seq (.tree (.seq ⟨some 7, none, (.ofA (.mv (.tmp 0)))⟩
  (.seq ⟨some 8, none, (.ofA (.nilc (.tmp 7)))⟩
  (.seq ⟨some 9, none, (.ofA (.faddr 4 (.tmp 8)))⟩
  (.seq ⟨some 10, none, (.ofA (.load none (.tmp 9)))⟩
  (.seq ⟨some 11, none, (.call (.cst (.fn 209 [])) [(.tmp 10)])⟩
  .done))))))
 (.block 0 (.seq (.tree (.seq ⟨some 13, none, (.ofA (.bin .eql (.tmp 11) (.cst (.v (.int .i64 12)))))⟩
  (.seq ⟨some 12, none, (.ofA (.mv (.tmp 13)))⟩
  .done)))
 (.cond (.tmp 12)
 (.seq (.tree (.seq ⟨some 6, none, (.ofA (.mv (.cst (.v (.int .i64 12)))))⟩
  .done))
 .ret)
 (.seq (.tree (.seq ⟨some 15, none, (.ofA (.bin .eql (.tmp 11) (.cst (.v (.int .i64 11)))))⟩
  (.seq ⟨some 14, none, (.ofA (.mv (.tmp 15)))⟩
  .done)))
 (.cond (.tmp 14)
 (.seq (.tree (.seq ⟨some 16, none, (.ofA (.mv (.tmp 2)))⟩
  (.seq ⟨some 17, none, (.call (.tmp 16) [])⟩
  .done)))
 (.seq (.tree (.seq ⟨some 6, none, (.ofA (.mv (.cst (.v (.int .i64 12)))))⟩
  .done))
 .ret))
 .skip))))))
 (.seq (.seq (.tree (.seq ⟨some 18, none, (.ofA (.mv (.tmp 0)))⟩
  (.seq ⟨some 19, none, (.ofA (.nilc (.tmp 18)))⟩
  (.seq ⟨some 20, none, (.ofA (.faddr 5 (.tmp 19)))⟩
  (.seq ⟨some 21, none, (.ofA (.load none (.tmp 20)))⟩
  (.seq ⟨some 22, none, (.ofA (.mv (.tmp 1)))⟩
  (.seq ⟨some 23, none, (.call (.cst (.fn 210 [])) [(.tmp 21), (.tmp 22)])⟩
  .done)))))))
 (.cond (.tmp 23)
 (.seq (.tree (.seq ⟨some 24, none, (.ofA (.mv (.tmp 2)))⟩
  (.seq ⟨some 25, none, (.call (.tmp 24) [])⟩
  .done)))
 (.seq (.tree (.seq ⟨some 6, none, (.ofA (.mv (.cst (.v (.int .i64 10)))))⟩
  .done))
 .ret))
 .skip))
 (.seq (.tree (.seq ⟨some 6, none, (.ofA (.mv (.cst (.v (.int .i64 0)))))⟩
  .done))
 .ret))))
def r170 : List XR := [.tmp 6]
theorem fn170 : FnX Try.prog 170 [123, 141, 170, 171, 192, 194, 195, 197, 206, 209, 210, 224, 225, 227, 245, 247] 26 x170 r170 := ⟨_, Try.func170, by kernel_rfl, by kernel_rfl, by kernel_rfl, by kernel_rfl⟩
-- (*almshouse/nand.Nand).Program$1 (0 parameters)
def x171 : XC := (.seq (.tree (.act false [(⟨some 2, none, (.ofA (.load none (.tmp 0)))⟩,
 (.take ⟨some 3, none, (.ofA (.nilc (.tmp 2)))⟩
  (.take ⟨some 4, none, (.ofA (.faddr 0 (.tmp 3)))⟩
  (.act false [(⟨some 5, none, (.ofA (.load none (.tmp 4)))⟩,
 (.act false [(⟨some 6, none, (.ofA (.load none (.tmp 1)))⟩,
 (.take ⟨some 7, none, (.ofA (.isl 3 (.tmp 5) (.tmp 6)))⟩
  (.take ⟨some 8, none, (.ofA (.faddr 0 (.tmp 7)))⟩
  (.act false [(⟨none, none, (.store 1 (.tmp 8) (.cst (.v (.int .i64 2))))⟩,
 .done)]))))])), (⟨some 6, none, (.ofA (.load none (.tmp 1)))⟩,
 (.act false [(⟨some 5, none, (.ofA (.load none (.tmp 4)))⟩,
 (.take ⟨some 7, none, (.ofA (.isl 3 (.tmp 5) (.tmp 6)))⟩
  (.take ⟨some 8, none, (.ofA (.faddr 0 (.tmp 7)))⟩
  (.act false [(⟨none, none, (.store 1 (.tmp 8) (.cst (.v (.int .i64 2))))⟩,
 .done)]))))]))])))), (⟨some 6, none, (.ofA (.load none (.tmp 1)))⟩,
 (.act false [(⟨some 2, none, (.ofA (.load none (.tmp 0)))⟩,
 (.take ⟨some 3, none, (.ofA (.nilc (.tmp 2)))⟩
  (.take ⟨some 4, none, (.ofA (.faddr 0 (.tmp 3)))⟩
  (.act false [(⟨some 5, none, (.ofA (.load none (.tmp 4)))⟩,
 (.take ⟨some 7, none, (.ofA (.isl 3 (.tmp 5) (.tmp 6)))⟩
  (.take ⟨some 8, none, (.ofA (.faddr 0 (.tmp 7)))⟩
  (.act false [(⟨none, none, (.store 1 (.tmp 8) (.cst (.v (.int .i64 2))))⟩,
 .done)]))))]))))]))]))
 (.tree (.seq ⟨some 9, none, (.ofA (.load none (.tmp 0)))⟩
  (.seq ⟨some 10, none, (.ofA (.load none (.tmp 1)))⟩
  (.seq ⟨some 11, none, (.ofA (.bin .add (.tmp 10) (.cst (.v (.int .i64 1)))))⟩
  (.seq ⟨some 12, none, (.ofA (.nilc (.tmp 9)))⟩
  (.seq ⟨some 13, none, (.ofA (.faddr 1 (.tmp 12)))⟩
  (.seq ⟨none, none, (.store 1 (.tmp 13) (.tmp 11))⟩
  .done))))))))
def r171 : List XR := []
theorem fn171 : FnX Try.prog 171 [123, 141, 170, 171, 192, 194, 195, 197, 206, 209, 210, 224, 225, 227, 245, 247] 14 x171 r171 := ⟨_, Try.func171, by kernel_rfl, by kernel_rfl, by kernel_rfl, by kernel_rfl⟩
-- (*almshouse/word.Reader).Done (1 parameters)
def x192 : XC := (.seq (.tree (.seq ⟨some 2, none, (.ofA (.mv (.cst (.v (.int .i64 0)))))⟩
  .done))
 (.seq (.seq (.tree (.seq ⟨some 3, none, (.ofA (.mv (.tmp 0)))⟩
  (.seq ⟨some 4, none, (.ofA (.eqn false 1 (.tmp 3) (.cst (.v (.pointer none)))))⟩
  .done)))
 (.cond (.tmp 4)
 (.seq (.tree (.seq ⟨some 2, none, (.ofA (.mv (.cst (.v (.int .i64 1)))))⟩
  .done))
 .ret)
 .skip))
 (.seq (.seq (.tree (.seq ⟨some 5, none, (.ofA (.mv (.tmp 0)))⟩
  (.seq ⟨some 6, none, (.ofA (.nilc (.tmp 5)))⟩
  (.seq ⟨some 7, none, (.ofA (.faddr 0 (.tmp 6)))⟩
  (.seq ⟨some 8, none, (.ofA (.load none (.tmp 7)))⟩
  (.seq ⟨some 9, none, (.ofA (.len (.tmp 8)))⟩
  (.seq ⟨some 10, none, (.ofA (.bin .gtr (.tmp 9) (.cst (.v (.int .i64 0)))))⟩
  .done)))))))
 (.cond (.tmp 10)
 (.tree (.seq ⟨some 11, none, (.ofA (.mv (.tmp 0)))⟩
  (.seq ⟨some 12, none, (.call (.cst (.fn 194 [])) [(.tmp 11), (.cst (.v (.int .i64 2)))])⟩
  .done)))
 .skip))
 (.seq (.tree (.seq ⟨some 13, none, (.ofA (.mv (.tmp 0)))⟩
  (.seq ⟨some 14, none, (.ofA (.nilc (.tmp 13)))⟩
  (.seq ⟨some 15, none, (.ofA (.faddr 1 (.tmp 14)))⟩
  (.seq ⟨some 16, none, (.ofA (.load none (.tmp 15)))⟩
  (.seq ⟨some 2, none, (.ofA (.mv (.tmp 16)))⟩
  .done))))))
 .ret))))
def r192 : List XR := [.tmp 2]
theorem fn192 : FnX Try.prog 192 [123, 141, 170, 171, 192, 194, 195, 197, 206, 209, 210, 224, 225, 227, 245, 247] 17 x192 r192 := ⟨_, Try.func192, by kernel_rfl, by kernel_rfl, by kernel_rfl, by kernel_rfl⟩
-- (*almshouse/word.Reader).fail (2 parameters)
def x194 : XC := (.seq (.tree (.seq ⟨some 4, none, (.ofA (.mv (.cst (.v (.bool false)))))⟩
  .done))
 (.seq (.seq (.tree (.seq ⟨some 5, none, (.ofA (.mv (.tmp 0)))⟩
  (.seq ⟨some 6, none, (.ofA (.nilc (.tmp 5)))⟩
  (.seq ⟨some 7, none, (.ofA (.faddr 1 (.tmp 6)))⟩
  (.seq ⟨some 8, none, (.ofA (.load none (.tmp 7)))⟩
  (.seq ⟨some 9, none, (.ofA (.bin .eql (.tmp 8) (.cst (.v (.int .i64 0)))))⟩
  .done))))))
 (.cond (.tmp 9)
 (.tree (.seq ⟨some 10, none, (.ofA (.mv (.tmp 0)))⟩
  (.seq ⟨some 11, none, (.ofA (.mv (.tmp 1)))⟩
  (.seq ⟨some 12, none, (.ofA (.nilc (.tmp 10)))⟩
  (.seq ⟨some 13, none, (.ofA (.faddr 1 (.tmp 12)))⟩
  (.seq ⟨none, none, (.store 1 (.tmp 13) (.tmp 11))⟩
  .done))))))
 .skip))
 (.seq (.tree (.seq ⟨some 14, none, (.ofA (.mv (.tmp 0)))⟩
  (.seq ⟨some 15, none, (.ofA (.nilc (.tmp 14)))⟩
  (.seq ⟨some 16, none, (.ofA (.faddr 1 (.tmp 15)))⟩
  (.seq ⟨some 17, none, (.ofA (.load none (.tmp 16)))⟩
  (.seq ⟨some 18, none, (.ofA (.bin .neq (.tmp 17) (.cst (.v (.int .i64 0)))))⟩
  (.seq ⟨some 4, none, (.ofA (.mv (.tmp 18)))⟩
  .done)))))))
 .ret)))
def r194 : List XR := [.tmp 4]
theorem fn194 : FnX Try.prog 194 [123, 141, 170, 171, 192, 194, 195, 197, 206, 209, 210, 224, 225, 227, 245, 247] 19 x194 r194 := ⟨_, Try.func194, by kernel_rfl, by kernel_rfl, by kernel_rfl, by kernel_rfl⟩
-- (*almshouse/word.Reader).next (2 parameters)
def x195 : XC := (.seq (.tree (.seq ⟨some 4, none, (.ofA (.mv (.cst (.v (.slice none 0 0)))))⟩
  .done))
 (.seq (.seq (.tree (.seq ⟨some 6, none, (.ofA (.mv (.tmp 0)))⟩
  (.seq ⟨some 7, none, (.ofA (.nilc (.tmp 6)))⟩
  (.seq ⟨some 8, none, (.ofA (.faddr 1 (.tmp 7)))⟩
  (.seq ⟨some 9, none, (.ofA (.load none (.tmp 8)))⟩
  (.seq ⟨some 10, none, (.ofA (.bin .neq (.tmp 9) (.cst (.v (.int .i64 0)))))⟩
  (.seq ⟨some 11, none, (.ofA (.mv (.tmp 10)))⟩
  (.seq ⟨some 12, some (11, false), (.ofA (.mv (.tmp 1)))⟩
  (.seq ⟨some 13, some (11, false), (.ofA (.mv (.tmp 0)))⟩
  (.seq ⟨some 14, some (11, false), (.ofA (.nilc (.tmp 13)))⟩
  (.seq ⟨some 15, some (11, false), (.ofA (.faddr 0 (.tmp 14)))⟩
  (.seq ⟨some 16, some (11, false), (.ofA (.load none (.tmp 15)))⟩
  (.seq ⟨some 17, some (11, false), (.ofA (.len (.tmp 16)))⟩
  (.seq ⟨some 18, some (11, false), (.ofA (.bin .gtr (.tmp 12) (.tmp 17)))⟩
  (.seq ⟨some 19, some (11, false), (.ofA (.mv (.tmp 18)))⟩
  (.seq ⟨some 20, some (19, true), (.ofA (.mv (.tmp 0)))⟩
  (.seq ⟨some 21, some (19, true), (.call (.cst (.fn 194 [])) [(.tmp 20), (.cst (.v (.int .i64 2)))])⟩
  (.seq ⟨some 22, some (11, false), (.ofA (.pick (.tmp 19) (.tmp 21) (.cst (.v (.bool false)))))⟩
  (.seq ⟨some 23, none, (.ofA (.pick (.tmp 11) (.cst (.v (.bool true))) (.tmp 22)))⟩
  .done)))))))))))))))))))
 (.cond (.tmp 23)
 (.seq (.tree (.seq ⟨some 4, none, (.ofA (.mv (.cst (.v (.slice none 0 0)))))⟩
  .done))
 .ret)
 .skip))
 (.seq (.tree (.seq ⟨some 24, none, (.ofA (.mv (.tmp 0)))⟩
  (.seq ⟨some 25, none, (.ofA (.nilc (.tmp 24)))⟩
  (.seq ⟨some 26, none, (.ofA (.faddr 0 (.tmp 25)))⟩
  (.seq ⟨some 27, none, (.ofA (.load none (.tmp 26)))⟩
  (.seq ⟨some 28, none, (.ofA (.mv (.tmp 1)))⟩
  (.seq ⟨some 29, none, (.ofA (.mv (.tmp 1)))⟩
  (.seq ⟨some 30, none, (.ofA (.slc3 1 (.tmp 27) none (.tmp 28) (.tmp 29)))⟩
  (.seq ⟨some 5, none, (.ofA (.mv (.tmp 30)))⟩
  .done)))))))))
 (.seq (.tree (.seq ⟨some 31, none, (.ofA (.mv (.tmp 0)))⟩
  (.seq ⟨some 32, none, (.ofA (.mv (.tmp 0)))⟩
  (.seq ⟨some 33, none, (.ofA (.nilc (.tmp 32)))⟩
  (.seq ⟨some 34, none, (.ofA (.faddr 0 (.tmp 33)))⟩
  (.seq ⟨some 35, none, (.ofA (.load none (.tmp 34)))⟩
  (.seq ⟨some 36, none, (.ofA (.mv (.tmp 1)))⟩
  (.seq ⟨some 37, none, (.ofA (.slc 1 (.tmp 35) (some (.tmp 36)) none))⟩
  (.seq ⟨some 38, none, (.ofA (.nilc (.tmp 31)))⟩
  (.seq ⟨some 39, none, (.ofA (.faddr 0 (.tmp 38)))⟩
  (.seq ⟨none, none, (.store 1 (.tmp 39) (.tmp 37))⟩
  .done)))))))))))
 (.seq (.tree (.seq ⟨some 40, none, (.ofA (.mv (.tmp 5)))⟩
  (.seq ⟨some 4, none, (.ofA (.mv (.tmp 40)))⟩
  .done)))
 .ret)))))
def r195 : List XR := [.tmp 4]
theorem fn195 : FnX Try.prog 195 [123, 141, 170, 171, 192, 194, 195, 197, 206, 209, 210, 224, 225, 227, 245, 247] 41 x195 r195 := ⟨_, Try.func195, by kernel_rfl, by kernel_rfl, by kernel_rfl, by kernel_rfl⟩
-- (*almshouse/word.Reader).Flag (1 parameters)
def x197 : XC := (.seq (.tree (.seq ⟨some 2, none, (.ofA (.mv (.cst (.v (.bool false)))))⟩
  .done))
 (.seq (.tree (.seq ⟨some 4, none, (.ofA (.mv (.tmp 0)))⟩
  (.seq ⟨some 5, none, (.call (.cst (.fn 141 [])) [(.tmp 4), (.cst (.v (.int .i64 1)))])⟩
  (.seq ⟨some 3, none, (.ofA (.mv (.tmp 5)))⟩
  .done))))
 (.seq (.seq (.tree (.seq ⟨some 6, none, (.ofA (.mv (.tmp 3)))⟩
  (.seq ⟨some 7, none, (.ofA (.bin .gtr (.tmp 6) (.cst (.v (.int .i64 1)))))⟩
  .done)))
 (.cond (.tmp 7)
 (.tree (.seq ⟨some 8, none, (.ofA (.mv (.tmp 0)))⟩
  (.seq ⟨some 9, none, (.call (.cst (.fn 194 [])) [(.tmp 8), (.cst (.v (.int .i64 2)))])⟩
  .done)))
 .skip))
 (.seq (.tree (.seq ⟨some 10, none, (.ofA (.mv (.tmp 3)))⟩
  (.seq ⟨some 11, none, (.ofA (.bin .eql (.tmp 10) (.cst (.v (.int .i64 1)))))⟩
  (.seq ⟨some 2, none, (.ofA (.mv (.tmp 11)))⟩
  .done))))
 .ret))))
def r197 : List XR := [.tmp 2]
theorem fn197 : FnX Try.prog 197 [123, 141, 170, 171, 192, 194, 195, 197, 206, 209, 210, 224, 225, 227, 245, 247] 12 x197 r197 := ⟨_, Try.func197, by kernel_rfl, by kernel_rfl, by kernel_rfl, by kernel_rfl⟩
-- (*sync/atomic.Int64).Store (2 parameters)
def x206 : XC := (.tree (.seq ⟨some 4, none, (.ofA (.mv (.tmp 0)))⟩
  (.seq ⟨some 5, none, (.ofA (.nilc (.tmp 4)))⟩
  (.seq ⟨some 6, none, (.ofA (.faddr 0 (.tmp 5)))⟩
  (.seq ⟨some 7, none, (.ofA (.mv (.tmp 1)))⟩
  (.seq ⟨some 8, none, (.call (.cst (.fn 224 [])) [(.tmp 6), (.tmp 7)])⟩
  .done))))))
def r206 : List XR := []
theorem fn206 : FnX Try.prog 206 [123, 141, 170, 171, 192, 194, 195, 197, 206, 209, 210, 224, 225, 227, 245, 247] 9 x206 r206 := ⟨_, Try.func206, by kernel_rfl, by kernel_rfl, by kernel_rfl, by kernel_rfl⟩
-- (*almshouse/power.Power).Spend (1 parameters)
def x209 : XC := (.seq (.tree (.seq ⟨some 2, none, (.ofA (.mv (.cst (.v (.int .i64 0)))))⟩
  .done))
 (.seq (.seq (.tree (.seq ⟨some 4, none, (.ofA (.mv (.tmp 0)))⟩
  (.seq ⟨some 5, none, (.call (.cst (.fn 212 [])) [(.tmp 4)])⟩
  .done)))
 (.cond (.tmp 5)
 (.seq (.tree (.seq ⟨some 2, none, (.ofA (.mv (.cst (.v (.int .i64 12)))))⟩
  .done))
 .ret)
 .skip))
 (.seq (.tree (.seq ⟨some 6, none, (.ofA (.mv (.tmp 0)))⟩
  (.seq ⟨some 7, none, (.ofA (.nilc (.tmp 6)))⟩
  (.seq ⟨some 8, none, (.ofA (.faddr 2 (.tmp 7)))⟩
  (.seq ⟨some 9, none, (.call (.cst (.fn 225 [])) [(.tmp 8), (.cst (.v (.int .i64 1)))])⟩
  .done)))))
 (.seq (.seq (.tree (.seq ⟨some 10, none, (.ofA (.mv (.tmp 0)))⟩
  (.seq ⟨some 11, none, (.ofA (.nilc (.tmp 10)))⟩
  (.seq ⟨some 12, none, (.ofA (.faddr 0 (.tmp 11)))⟩
  (.seq ⟨some 13, none, (.call (.cst (.fn 226 [])) [(.tmp 12)])⟩
  (.seq ⟨some 3, none, (.ofA (.mv (.tmp 13)))⟩
  .done))))))
 (.block 0 (.seq (.tree (.seq ⟨some 15, none, (.ofA (.mv (.tmp 3)))⟩
  (.seq ⟨some 16, none, (.ofA (.bin .eql (.tmp 15) (.cst (.v (.int .i64 0)))))⟩
  (.seq ⟨some 14, none, (.ofA (.mv (.tmp 16)))⟩
  .done))))
 (.cond (.tmp 14)
 (.seq (.tree (.seq ⟨some 17, none, (.ofA (.mv (.tmp 0)))⟩
  (.seq ⟨some 18, none, (.ofA (.nilc (.tmp 17)))⟩
  (.seq ⟨some 19, none, (.ofA (.faddr 1 (.tmp 18)))⟩
  (.seq ⟨some 20, none, (.call (.cst (.fn 227 [])) [(.tmp 19), (.cst (.v (.bool true)))])⟩
  .done)))))
 (.seq (.tree (.seq ⟨some 2, none, (.ofA (.mv (.cst (.v (.int .i64 11)))))⟩
  .done))
 .ret))
 (.seq (.tree (.seq ⟨some 22, none, (.ofA (.mv (.tmp 3)))⟩
  (.seq ⟨some 23, none, (.ofA (.bin .gtr (.tmp 22) (.cst (.v (.int .i64 0)))))⟩
  (.seq ⟨some 21, none, (.ofA (.mv (.tmp 23)))⟩
  .done))))
 (.cond (.tmp 21)
 (.tree (.seq ⟨some 24, none, (.ofA (.mv (.tmp 0)))⟩
  (.seq ⟨some 25, none, (.ofA (.nilc (.tmp 24)))⟩
  (.seq ⟨some 26, none, (.ofA (.faddr 0 (.tmp 25)))⟩
  (.seq ⟨some 27, none, (.ofA (.mv (.tmp 3)))⟩
  (.seq ⟨some 28, none, (.ofA (.bin .sub (.tmp 27) (.cst (.v (.int .i64 1)))))⟩
  (.seq ⟨some 29, none, (.call (.cst (.fn 206 [])) [(.tmp 26), (.tmp 28)])⟩
  .done)))))))
 .skip))))))
 (.seq (.tree (.seq ⟨some 2, none, (.ofA (.mv (.cst (.v (.int .i64 0)))))⟩
  .done))
 .ret)))))
def r209 : List XR := [.tmp 2]
theorem fn209 : FnX Try.prog 209 [123, 141, 170, 171, 192, 194, 195, 197, 206, 209, 210, 224, 225, 227, 245, 247] 30 x209 r209 := ⟨_, Try.func209, by kernel_rfl, by kernel_rfl, by kernel_rfl, by kernel_rfl⟩
-- (*almshouse/draws.Draws).Next (2 parameters)
def x210 : XC := (.seq (.tree (.seq ⟨some 4, none, (.ofA (.mv (.cst (.v (.bool false)))))⟩
  .done))
 (.seq (.tree (.seq ⟨some 6, none, (.ofA (.mv (.tmp 0)))⟩
  (.seq ⟨some 7, none, (.ofA (.mv (.tmp 1)))⟩
  (.seq ⟨some 8, none, (.call (.cst (.fn 228 [])) [(.tmp 6), (.tmp 7)])⟩
  (.seq ⟨some 5, none, (.ofA (.mv (.tmp 8)))⟩
  .done)))))
 (.seq (.seq (.tree (.take ⟨some 9, none, (.ofA (.mv (.tmp 5)))⟩
  (.take ⟨some 10, none, (.ofA (.eqn false 1 (.tmp 9) (.cst (.v (.pointer none)))))⟩
  (.take ⟨some 11, none, (.ofA (.mv (.tmp 10)))⟩
  (.take ⟨some 12, some (11, false), (.ofA (.mv (.tmp 5)))⟩
  (.take ⟨some 13, some (11, false), (.ofA (.nilc (.tmp 12)))⟩
  (.take ⟨some 14, some (11, false), (.ofA (.faddr 0 (.tmp 13)))⟩
  (.take ⟨some 16, some (11, false), (.ofA (.mv (.tmp 5)))⟩
  (.take ⟨some 17, some (11, false), (.ofA (.nilc (.tmp 16)))⟩
  (.take ⟨some 18, some (11, false), (.ofA (.faddr 1 (.tmp 17)))⟩
  (.act false [(⟨some 15, some (11, false), (.ofA (.load none (.tmp 14)))⟩,
 (.act false [(⟨some 19, some (11, false), (.call (.cst (.fn 225 [])) [(.tmp 18), (.cst (.v (.int .i64 1)))])⟩,
 (.act false [(⟨some 20, some (11, false), (.call (.cst (.fn 229 [])) [(.tmp 15), (.tmp 19)])⟩,
 (.take ⟨some 21, some (11, false), (.ofA (.un .not (.tmp 20)))⟩
  (.take ⟨some 22, none, (.ofA (.pick (.tmp 11) (.cst (.v (.bool true))) (.tmp 21)))⟩
  .done)))]))])), (⟨some 19, some (11, false), (.call (.cst (.fn 225 [])) [(.tmp 18), (.cst (.v (.int .i64 1)))])⟩,
 (.act false [(⟨some 15, some (11, false), (.ofA (.load none (.tmp 14)))⟩,
 (.act false [(⟨some 20, some (11, false), (.call (.cst (.fn 229 [])) [(.tmp 15), (.tmp 19)])⟩,
 (.take ⟨some 21, some (11, false), (.ofA (.un .not (.tmp 20)))⟩
  (.take ⟨some 22, none, (.ofA (.pick (.tmp 11) (.cst (.v (.bool true))) (.tmp 21)))⟩
  .done)))]))]))])))))))))))
 (.cond (.tmp 22)
 (.seq (.tree (.seq ⟨some 4, none, (.ofA (.mv (.cst (.v (.bool false)))))⟩
  .done))
 .ret)
 .skip))
 (.seq (.tree (.seq ⟨some 23, none, (.ofA (.mv (.tmp 5)))⟩
  (.seq ⟨some 24, none, (.ofA (.nilc (.tmp 23)))⟩
  (.seq ⟨some 25, none, (.ofA (.faddr 2 (.tmp 24)))⟩
  (.seq ⟨some 26, none, (.call (.cst (.fn 225 [])) [(.tmp 25), (.cst (.v (.int .i64 1)))])⟩
  .done)))))
 (.seq (.tree (.seq ⟨some 4, none, (.ofA (.mv (.cst (.v (.bool true)))))⟩
  .done))
 .ret)))))
def r210 : List XR := [.tmp 4]
theorem fn210 : FnX Try.prog 210 [123, 141, 170, 171, 192, 194, 195, 197, 206, 209, 210, 224, 225, 227, 245, 247] 27 x210 r210 := ⟨_, Try.func210, by kernel_rfl, by kernel_rfl, by kernel_rfl, by kernel_rfl⟩
-- (*sync/atomic.Int64).Add (2 parameters)
def x225 : XC := (.seq (.tree (.seq ⟨some 4, none, (.ofA (.mv (.cst (.v (.int .i64 0)))))⟩
  .done))
 (.seq (.tree (.seq ⟨some 5, none, (.ofA (.mv (.tmp 0)))⟩
  (.seq ⟨some 6, none, (.ofA (.nilc (.tmp 5)))⟩
  (.seq ⟨some 7, none, (.ofA (.faddr 0 (.tmp 6)))⟩
  (.seq ⟨some 8, none, (.ofA (.mv (.tmp 1)))⟩
  (.seq ⟨some 9, none, (.call (.cst (.fn 245 [])) [(.tmp 7), (.tmp 8)])⟩
  (.seq ⟨some 4, none, (.ofA (.mv (.tmp 9)))⟩
  .done)))))))
 .ret))
def r225 : List XR := [.tmp 4]
theorem fn225 : FnX Try.prog 225 [123, 141, 170, 171, 192, 194, 195, 197, 206, 209, 210, 224, 225, 227, 245, 247] 10 x225 r225 := ⟨_, Try.func225, by kernel_rfl, by kernel_rfl, by kernel_rfl, by kernel_rfl⟩
-- (*sync/atomic.Bool).Store (2 parameters)
def x227 : XC := (.tree (.take ⟨some 4, none, (.ofA (.mv (.tmp 0)))⟩
  (.take ⟨some 5, none, (.ofA (.nilc (.tmp 4)))⟩
  (.take ⟨some 6, none, (.ofA (.faddr 0 (.tmp 5)))⟩
  (.take ⟨some 7, none, (.ofA (.mv (.tmp 1)))⟩
  (.act false [(⟨some 8, none, (.call (.cst (.fn 248 [])) [(.tmp 7)])⟩,
 (.act false [(⟨some 9, none, (.call (.cst (.fn 247 [])) [(.tmp 6), (.tmp 8)])⟩,
 .done)]))]))))))
def r227 : List XR := []
theorem fn227 : FnX Try.prog 227 [123, 141, 170, 171, 192, 194, 195, 197, 206, 209, 210, 224, 225, 227, 245, 247] 10 x227 r227 := ⟨_, Try.func227, by kernel_rfl, by kernel_rfl, by kernel_rfl, by kernel_rfl⟩

def T74 : List RE := [.run 74 true ⟨x74, 86, r74, 7⟩, .run 75 true ⟨x75, 24, r75, 5⟩, .run 122 true ⟨x122, 27, r122, 5⟩, .run 124 true ⟨x124, 22, r124, 5⟩, .run 125 true ⟨x125, 65, r125, 7⟩, .run 126 true ⟨x126, 70, r126, 7⟩, .run 142 true ⟨x142, 50, r142, 6⟩, .run 144 true ⟨x144, 14, r144, 4⟩, .run 146 true ⟨x146, 28, r146, 5⟩, .run 147 true ⟨x147, 31, r147, 5⟩, .run 166 true ⟨x166, 12, r166, 4⟩, .run 167 true ⟨x167, 42, r167, 6⟩, .run 168 true ⟨x168, 79, r168, 7⟩, .run 169 true ⟨x169, 26, r169, 5⟩, .run 172 true ⟨x172, 8, r172, 4⟩, .run 173 true ⟨x173, 36, r173, 6⟩, .run 174 true ⟨x174, 10, r174, 4⟩, .run 175 true ⟨x175, 17, r175, 5⟩, .run 176 true ⟨x176, 15, r176, 4⟩, .run 177 true ⟨x177, 57, r177, 6⟩, .run 178 true ⟨x178, 47, r178, 6⟩, .run 190 true ⟨x190, 45, r190, 6⟩, .run 191 true ⟨x191, 7, r191, 3⟩, .run 193 true ⟨x193, 13, r193, 4⟩, .run 199 true ⟨x199, 36, r199, 6⟩, .run 200 true ⟨x200, 30, r200, 5⟩, .run 208 true ⟨x208, 8, r208, 4⟩, .run 211 true ⟨x211, 51, r211, 6⟩, .run 212 true ⟨x212, 11, r212, 4⟩, .run 213 true ⟨x213, 32, r213, 6⟩, .run 214 true ⟨x214, 31, r214, 5⟩, .run 218 true ⟨x218, 5, r218, 3⟩, .run 219 true ⟨x219, 10, r219, 4⟩, .run 226 true ⟨x226, 7, r226, 3⟩, .run 228 true ⟨x228, 20, r228, 5⟩, .run 229 true ⟨x229, 9, r229, 4⟩, .run 230 true ⟨x230, 8, r230, 4⟩, .run 231 true ⟨x231, 12, r231, 4⟩, .run 248 true ⟨x248, 4, r248, 3⟩, .run 249 true ⟨x249, 19, r249, 5⟩, .run 123 false ⟨x123, 80, r123, 7⟩, .run 141 false ⟨x141, 38, r141, 6⟩, .run 170 false ⟨x170, 26, r170, 5⟩, .run 171 false ⟨x171, 14, r171, 4⟩, .run 192 false ⟨x192, 17, r192, 5⟩, .run 194 false ⟨x194, 19, r194, 5⟩, .run 195 false ⟨x195, 41, r195, 6⟩, .run 197 false ⟨x197, 12, r197, 4⟩, .run 206 false ⟨x206, 9, r206, 4⟩, .run 209 false ⟨x209, 30, r209, 5⟩, .run 210 false ⟨x210, 27, r210, 5⟩, .run 225 false ⟨x225, 10, r225, 4⟩, .run 227 false ⟨x227, 10, r227, 4⟩, .nat 242 true g242R, .nat 224 false gStore, .nat 245 false (gAdd .i64), .nat 246 true (gLoad .i64), .nat 247 false gStore, .nat 250 true (gLoad .u32)]
theorem T74_ok : TOk Try.prog EFF T74 := (TOk.run fn74 (TOk.run fn75 (TOk.run fn122 (TOk.run fn124 (TOk.run fn125 (TOk.run fn126 (TOk.run fn142 (TOk.run fn144 (TOk.run fn146 (TOk.run fn147 (TOk.run fn166 (TOk.run fn167 (TOk.run fn168 (TOk.run fn169 (TOk.run fn172 (TOk.run fn173 (TOk.run fn174 (TOk.run fn175 (TOk.run fn176 (TOk.run fn177 (TOk.run fn178 (TOk.run fn190 (TOk.run fn191 (TOk.run fn193 (TOk.run fn199 (TOk.run fn200 (TOk.run fn208 (TOk.run fn211 (TOk.run fn212 (TOk.run fn213 (TOk.run fn214 (TOk.run fn218e (TOk.run fn219 (TOk.run fn226 (TOk.run fn228 (TOk.run fn229 (TOk.run fn230 (TOk.run fn231 (TOk.run fn248 (TOk.run fn249 (TOk.run fn123 (TOk.run fn141 (TOk.run fn170 (TOk.run fn171 (TOk.run fn192 (TOk.run fn194 (TOk.run fn195 (TOk.run fn197 (TOk.run fn206 (TOk.run fn209 (TOk.run fn210 (TOk.run fn225 (TOk.run fn227 (TOk.nat h242 (TOk.nat h224 (TOk.nat h245 (TOk.nat h246 (TOk.nat h247 (TOk.nat h250 TOk.nil)))))))))))))))))))))))))))))))))))))))))))))))))))))))))))

theorem run74 : runsTo T74 1000 60 74 [] (.v (.bool true)) = true := by kernel_rfl
end Go.Proofs.Ytppndeoiifkkkaa
