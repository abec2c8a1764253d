/- Layer 2 (sum): sync.Once, the function not yet called. -/
import Derived.Test.YtibefgdjijmncaaOnA
namespace Go.Proofs.Ytibefgdjijmncaa
open Go.RowKit Sz
set_option linter.unusedVariables false
set_option linter.unusedSimpArgs false
set_option maxRecDepth 100000
set_option maxHeartbeats 1600000
theorem n_slow (b off : Nat) (w : World) (R : World → Prop)
    (h0 : w.cell? ⟨b, off, none⟩ = some (.int .u32 0)) (h1 : w.cell? ⟨b, off + 1, none⟩ = some (.int .i32 0)) (f1 : w.frozen? ⟨b, off + 1, none⟩ = false)
    (hcall : Calls Try.prog 172 #[.pointer (some ⟨b, off, none⟩)] (w.setCell ⟨b, off + 1, none⟩ (.int .i32 1)) fun e w2 => (∃ u, e = .returned u) ∧ R w2)
    (hR : ∀ w2, R w2 → (∃ x, w2.cell? ⟨b, off, none⟩ = some x) ∧ w2.cell? ⟨b, off + 1, none⟩ = some (.int .i32 1) ∧ w2.frozen? ⟨b, off, none⟩ = false ∧ w2.frozen? ⟨b, off + 1, none⟩ = false) :
    Calls Try.prog 174 #[.pointer (some ⟨b, off, none⟩), .func (.func 172) #[.pointer (some ⟨b, off, none⟩)] #[]] w fun e w' => e = .returned (.tuple #[]) ∧
      ∃ w2, R w2 ∧ w' = (w2.drew.setCell ⟨b, off, none⟩ (.int .u32 1)).setCell ⟨b, off + 1, none⟩ (.int .i32 0) := by
  have hl := run_call_load (P := Try.prog) Try.func164 (by kernel_rfl) (by kernel_rfl) (by kernel_rfl) .u32 (by kernel_rfl) (w := w.setCell ⟨b, off + 1, none⟩ (.int .i32 1)) (a := ⟨b, off, none⟩) (x := 0) ((World.cell?_setCell_other _ ⟨b, off + 1, none⟩ ⟨b, off, none⟩ _ (by simp)).trans h0)
  have hnot : ∀ (x : Bool) (w : World), (Op.unary .not (.bool x)).run Try.prog w = .ok (.bool (!x)) w := fun _ _ => rfl
  go_enter_defers Try.func174, Try.ntmps174
  go_wp2_with (go_at_call 175; refine (n_lock ⟨b, off + 1, none⟩ _ (by go_simp) (by go_simp)).mono ?_; rintro e w' ⟨rfl, rfl⟩)
  go_wp2_with (first | (go_at_call 146; go_in) | (go_at_call 172; refine hcall.mono ?_; rintro e w2 ⟨⟨u, rfl⟩, hw2⟩))
  obtain ⟨⟨x, c0⟩, c1, z0, z1⟩ := hR w2 hw2
  refine leaves_cons (f := 177) (args := #[.pointer (some ⟨b, off, none⟩), .bool true]) (by simp) (by simp [go_sem]) ?_
  refine (n_store ⟨b, off, none⟩ x .returning _ c0 z0).mono ?_
  rintro e u' w'' ⟨rfl, rfl, rfl⟩
  refine leaves_cons (f := 176) (args := #[.pointer (some ⟨b, off + 1, none⟩)]) (by simp [settle]) (by simp [go_sem]) ?_
  refine (n_unlock ⟨b, off + 1, none⟩ _ _ ?_ (by simp [z1])).mono ?_
  · refine (World.cell?_setCell_other _ ⟨b, off, none⟩ ⟨b, off + 1, none⟩ _ (by simp)).trans ?_
    rw [World.cell?_drew]
    exact c1
  rintro e u' w'' ⟨rfl, rfl, rfl⟩
  simp [Leaves, settle, results, Try.results174]
  exact ⟨w2, hw2, rfl⟩
/-- '(*sync.Once).Do', the function not yet called. -/
theorem n_do (b off : Nat) (w : World) (R : World → Prop)
    (h0 : w.cell? ⟨b, off, none⟩ = some (.int .u32 0)) (h1 : w.cell? ⟨b, off + 1, none⟩ = some (.int .i32 0)) (f1 : w.frozen? ⟨b, off + 1, none⟩ = false)
    (hcall : Calls Try.prog 172 #[.pointer (some ⟨b, off, none⟩)] (w.setCell ⟨b, off + 1, none⟩ (.int .i32 1)) fun e w2 => (∃ u, e = .returned u) ∧ R w2)
    (hR : ∀ w2, R w2 → (∃ x, w2.cell? ⟨b, off, none⟩ = some x) ∧ w2.cell? ⟨b, off + 1, none⟩ = some (.int .i32 1) ∧ w2.frozen? ⟨b, off, none⟩ = false ∧ w2.frozen? ⟨b, off + 1, none⟩ = false) :
    Calls Try.prog 171 #[.pointer (some ⟨b, off, none⟩), .func (.func 172) #[.pointer (some ⟨b, off, none⟩)] #[]] w fun e w' => e = .returned (.tuple #[]) ∧
      ∃ w2, R w2 ∧ w' = (w2.drew.setCell ⟨b, off, none⟩ (.int .u32 1)).setCell ⟨b, off + 1, none⟩ (.int .i32 0) := by
  have hl := run_call_load (P := Try.prog) Try.func164 (by kernel_rfl) (by kernel_rfl) (by kernel_rfl) .u32 (by kernel_rfl) h0
  have hnot : ∀ (x : Bool) (w : World), (Op.unary .not (.bool x)).run Try.prog w = .ok (.bool (!x)) w := fun _ _ => rfl
  go_enter Try.func171, Try.ntmps171
  go_wp2_with (first | (go_at_call 174; refine (n_slow b off w R h0 h1 f1 hcall hR).mono ?_; rintro e w' ⟨rfl, hw⟩) | (go_at_call 146; go_in))
  go_end0
  exact ⟨rfl, hw⟩
end Go.Proofs.Ytibefgdjijmncaa
