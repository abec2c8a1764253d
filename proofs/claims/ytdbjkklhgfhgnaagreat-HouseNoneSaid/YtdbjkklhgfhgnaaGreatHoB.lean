/- Layer 21 (house), law HouseNone: for every act it returns true. By the kernel's reckoning. No condition. -/
import Derived.Test.YtdbjkklhgfhgnaaGreatHoA
namespace Go.Proofs.YtdbjkklhgfhgnaaGreat
open Go.RowKit Sz
set_option linter.unusedVariables false
set_option maxRecDepth 20000
set_option maxHeartbeats 4000000
theorem run24 : runsTo T24 1000 60 24 [] (.v (.bool true)) = true := by kernel_rfl
def c24 [Inp] : Trans := fun args m k => args = [] ∧ k (.v (.bool true)) m
theorem c24_ok [Inp] : Contract Tryz.prog 24 true c24 := .runs T24_ok 1000 60 run24 _ fun a m k h => ⟨h.1, h.2⟩
def g24N : Nat_ := fun args lo mm => match args with
  | [] => some [(.v (.bool true), mm)]
  | _ => none
theorem h24 : ∀ I : Inp, @Callable I Tryz.prog 24 true (natTr g24N) := fun I => .inl (c24_ok.mono fun args m k h => by
  obtain ⟨lo, mm, L, hlo, rfl, hL, h⟩ := h
  unfold g24N at hL
  split at hL
  · injection hL with hL; subst hL
    exact ⟨rfl, h _ (List.mem_singleton.2 rfl) (Keep.refl _ _)⟩
  · cases hL)
def T4 : List RE := .nat 24 true g24N :: T24
theorem T4_ok : TOk Tryz.prog EFF T4 := TOk.nat h24 T24_ok
def actA (k t u s p q l : Int) (d : ByteArray) : List SV := [.agg [.v (.int .u8 k), .v (.int .i64 t), .v (.int .i64 u), .v (.int .i64 s), .v (.int .i64 p), .v (.int .i64 q), .v (.int .i64 l), .v (.string d)]]
theorem run4 (k t u s p q l : Int) (d : ByteArray) : runsToA T4 1000 60 4 (actA k t u s p q l d) (.v (.bool true)) = true := by kernel_rfl
def c4 [Inp] : Trans := fun args m k => match args with
  | [.agg [.v (.int .u8 _), .v (.int .i64 _), .v (.int .i64 _), .v (.int .i64 _), .v (.int .i64 _), .v (.int .i64 _), .v (.int .i64 _), .v (.string _)]] => k (.v (.bool true)) m
  | _ => False
theorem r4_ok [Inp] (k t u s p q l : Int) (d : ByteArray) : Contract Tryz.prog 4 true (fun a m K => a = actA k t u s p q l d ∧ K (.v (.bool true)) m) :=
  .runsA T4_ok 1000 60 (run4 k t u s p q l d) _ fun a m k h => h
theorem c4_ok [Inp] : Contract Tryz.prog 4 true c4 := ⟨(r4_ok 0 0 0 0 0 0 0 ByteArray.empty).enter, fun args m k base w0 W r vs h => by
  unfold c4 at h
  split at h
  · rename_i k t u s p q l d
    exact (r4_ok k t u s p q l d).calls _ m _ base w0 W r vs ⟨rfl, h⟩
  · exact h.elim⟩
end Go.Proofs.YtdbjkklhgfhgnaaGreat
