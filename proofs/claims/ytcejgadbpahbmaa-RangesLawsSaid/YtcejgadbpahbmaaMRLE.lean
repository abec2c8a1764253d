/- Walks and plain facts for the law RangesLaws, part MRLE. No condition. -/
import Derived.Test.YtcejgadbpahbmaaMRLD
import Derived.Test.YtcejgadbpahbmaaMRLA
import Derived.ProofKit
import Derived.OpenShut
import Derived.Deep.Slices
import Derived.Test.YtcejgadbpahbmaaMRLC
import Derived.SizedLaws
set_option linter.unusedVariables false
set_option linter.unusedSimpArgs false
section
namespace Go.Proofs.Ytcejgadbpahbmaa
open Go.RowKit Sz
set_option maxHeartbeats 16000000
set_option maxRecDepth 20000
namespace Rc
theorem app_e [Inp] {A B : List Ra.Ed} {K : SV → Mem → Prop} (hA : A.length ≤ 100000) (hB : B.length ≤ 100000) (h0 : A ++ B = [] → K (.v (.slice none 0 0)) []) (h1 : ∀ H : Mem, A ++ B ≠ [] → H.length ≤ 2 → K (.row H.length 0 (A ++ B).length 3) (H ++ [⟨true, vL eV (A ++ B)⟩])) :
    appK 3 24 (rS 0 3 A.length) (slOf (rM (vL eV A) ++ rM (vL eV B)) 3 (rS 0 3 A.length)) (slOf (rM (vL eV A) ++ rM (vL eV B)) 3 (rS (rM (vL eV A)).length 3 B.length)) (rM (vL eV A) ++ rM (vL eV B)) K := by
  have ones := fun l : List Ra.Ed => @e_ones l
  by_cases ha : A = []
  · subst ha
    rw [vL_nil, rM_0, List.length_nil, rS_0, List.nil_append, List.length_nil, sl_0]
    by_cases hb : B = []
    · subst hb
      rw [vL_nil, rM_0, List.length_nil, rS_0, sl_0]
      exact ⟨Nat.le_refl _, h0 rfl⟩
    · have hn : B.length ≠ 0 := fun e => hb (List.length_eq_zero_iff.1 e)
      have hm : rM (vL eV B) = [⟨true, vL eV B⟩] := rM_ne (vL_ne eV_len (by omega) hb)
      rw [rS_ne hn, hm, sl_row]
      show appK 3 24 _ (some (0, [])) (slK (some _) 0 B.length 3) _ K
      rw [sl_k, Nat.zero_add, if_pos (by show B.length * 3 ≤ (vL eV B).length; rw [e_len]; exact Nat.le_refl _), List.drop_zero, List.take_of_length_le (by show (vL eV B).length ≤ _; rw [e_len]; exact Nat.le_refl _)]
      have h2 := h1 [⟨true, vL eV B⟩] (by simpa using hb) (by simp)
      unfold appK
      simp only [hn, if_false]
      refine ⟨⟨rfl, rfl, by rw [e_len], Nat.pos_of_ne_zero hn, ones B, by unfold maxLen; omega, by omega⟩, ?_⟩
      simpa [k_v] using h2
  · have hn : A.length ≠ 0 := fun e => ha (List.length_eq_zero_iff.1 e)
    have hm : rM (vL eV A) = [⟨true, vL eV A⟩] := rM_ne (vL_ne eV_len (by omega) ha)
    rw [rS_ne hn, hm, sl_row]
    show appK 3 24 _ (slK (some _) 0 A.length 3) _ _ K
    rw [sl_k, Nat.zero_add, if_pos (by show A.length * 3 ≤ (vL eV A).length; rw [e_len]; exact Nat.le_refl _), List.drop_zero, List.take_of_length_le (by show (vL eV A).length ≤ _; rw [e_len]; exact Nat.le_refl _)]
    by_cases hb : B = []
    · subst hb
      rw [vL_nil, rM_0, List.length_nil, rS_0, sl_0]
      have h2 := h1 [] (by simpa using ha) (by simp)
      rw [List.append_nil] at h2
      exact ⟨trivial, h2⟩
    · have hn2 : B.length ≠ 0 := fun e => hb (List.length_eq_zero_iff.1 e)
      have hm2 : rM (vL eV B) = [⟨true, vL eV B⟩] := rM_ne (vL_ne eV_len (by omega) hb)
      rw [rS_ne hn2, hm2, sl_row]
      show appK 3 24 _ _ (slK (some _) 0 B.length 3) _ K
      rw [sl_k, Nat.zero_add, if_pos (by show B.length * 3 ≤ (vL eV B).length; rw [e_len]; exact Nat.le_refl _), List.drop_zero, List.take_of_length_le (by show (vL eV B).length ≤ _; rw [e_len]; exact Nat.le_refl _)]
      have h2 := h1 [⟨false, []⟩, ⟨true, vL eV B⟩] (by simp [ha]) (by simp)
      unfold appK
      simp only [hn2, if_false]
      refine ⟨⟨?_, by rw [e_len], by rw [e_len], Nat.pos_of_ne_zero hn2, ones B, by unfold maxLen; omega, by omega⟩, ?_⟩
      · rw [g_row]
        exact ⟨⟨rfl, by show 0 + A.length * 3 ≤ (vL eV A).length; rw [e_len]; omega⟩, rfl⟩
      · rw [vL_app]
        simpa [k_row] using h2
theorem fit58i {J : Inp} {g : FuncId} {T : Bool → Bool → Bool} {es : List Ra.Ed} {e : Env} {m : Mem} (hJ : J.keep = 0) {i j : Nat} (hij : i ≠ j) (h1 : m[i]? = some ⟨true, vL eV es⟩) (h2 : m[j]? = some (mapO .bool [])) (e2 : e 2 = .fn g []) (e7 : e 7 = .row i 0 es.length 3) (e8 : e 8 = .v (.slice none 0 0)) (e9 : e 9 = .mp j) (e23 : e 23 = .row i 0 es.length 3) (e24 : e 24 = .v (.int .i64 (es.length : Int))) (e25 : e 25 = .v (.int .i64 0)) : @Fit J e m (L58 g T es 0 []) (M58 es [] []) := by
  refine ⟨[i, j, i], ?_, ?_, ?_, keep0 hJ⟩
  · have h3 : ¬ j = i := fun h => hij h.symm
    simp [M58, NdL, NdA, oO_nil, vL_nil, hij, h3]
  · simp only [M58, FitM, h1, h2]
    exact ⟨obV, obM (by simp [MLe]), .inl rfl, trivial⟩
  · simp only [L58, FitE, e2, e7, e8, e9, e23, e24, e25, List.length_nil, oV_0]
    simp [Le, LeL]
theorem c58_ok [I : Inp] {g : FuncId} {T : Bool → Bool → Bool} (hT : T false false = false) (hg : ∀ J : Inp, @Contract J Try.prog g true (trT T)) (g91 : (g = 91) = False) (g92 : (g = 92) = False) : Contract Try.prog 58 true (c58 g T) := by
  refine .readFf fn58 (G := fun J => @G58 J g T) (fun J => @g58 J _ _ (hg J)) _ fun args m k h => ?_
  obtain ⟨s1, s2, a, b, rfl, ha, hb, hna, hnb, hk⟩ := h
  refine ⟨by simp, fun J hJ us hus => ?_⟩
  obtain ⟨u, t1, rfl, hu1, u2, t2, rfl, hu2, u3, t3, rfl, hu3, rfl⟩ := hus
  obtain ⟨p, cc, rfl, hin⟩ := rdG_knows ha hu1
  obtain ⟨p', cc', rfl, hin'⟩ := rdG_knows hb hu2
  have e1 : ∀ (s : SV) (q : Option Addr) (n c : Nat), plF s (.slice q n c) = .v (.slice q n c) ∨ ∃ f, s = .fn f [] := fun s q n c => by
    unfold plF
    split
    · exact .inr ⟨_, rfl⟩
    · exact .inl rfl
  have es1 : plF s1 (.slice p a.length cc) = .v (.slice p a.length cc) := by
    rcases e1 s1 p a.length cc with h | ⟨f, rfl⟩
    · exact h
    · simp [rdG, slOf] at ha
  have es2 : plF s2 (.slice p' b.length cc') = .v (.slice p' b.length cc') := by
    rcases e1 s2 p' b.length cc' with h | ⟨f, rfl⟩
    · exact h
    · simp [rdG, slOf] at hb
  have es3 : plF (.fn g []) u3 = .fn g [] := rfl
  rw [List.zipWith_cons_cons, List.zipWith_cons_cons, List.zipWith_cons_cons, List.zipWith_nil_left, es1, es2, es3]
  simp (maxSteps := 2000000) -implicitDefEqProofs only [↓x58, ↓r58, ↓G58, g91, g92, ↓c91, s_alt, s_alt20, s_alt2t, s_alt2f, ↓s_loopi, ↓v_pq, ↓PRE, POST, CORE, Nat.reduceDiv, Nat.reduceMod, Int.reduceLT, Int.reduceLE, Int.reduceToNat, Int.reduceAdd, ↓reduceIte, Nat.reduceEqDiff, Nat.reduceAdd, Nat.reduceMul, Nat.reduceSub, Nat.reduceLeDiff, Nat.reduceLT, reduceCtorEq, if_true, eq_self, forall_const, implies_true]
  refine ⟨_, a, _, rfl, rdG_v hin, by omega, ?_⟩
  refine ⟨_, b, _, rfl, rdG_v hin', by omega, ?_⟩
  have hA := Ra.edges_len a false
  have hB := Ra.edges_len b true
  have hup : ∀ es : List Ra.Ed, es.Perm (Ra.edges a false ++ Ra.edges b true) → ∀ e ∈ es, -1 ≤ e.up ∧ e.up ≤ 1 := fun es hp e he => by
    rcases List.mem_append.1 (hp.mem_iff.1 he) with h | h
    · exact Ra.edges_up _ _ e h
    · exact Ra.edges_up _ _ e h
  have hln : ∀ es : List Ra.Ed, es.Perm (Ra.edges a false ++ Ra.edges b true) → es.length ≤ 100000 := fun es hp => by
    rw [hp.length_eq, List.length_append]; omega
  have hsw : ∀ es : List Ra.Ed, es.Perm (Ra.edges a false ++ Ra.edges b true) → (es.Pairwise fun x y => ¬ cmpE y x < 0) → Ra.sw T es es.length = Ra.swp T a b := fun es hp hs => by
    refine Ra.sw_swp hT hp (hs.imp fun {x y} h => ?_)
    rw [cmpE_neg] at h
    omega
  have hsl := Ra.swp_len T a b
  generalize hEA : Ra.edges a false = A at hA hup hln hsw ⊢
  generalize hEB : Ra.edges b true = B at hB hup hln hsw ⊢
  have fin : ∀ out m', out = Ra.swp T a b → (out ≠ [] → m'[2]? = some ⟨true, vL gV out⟩) → ∃ g2 s2 m2, NdL g2 m2 ∧ FitM g2 m' g2 m2 ∧ (∀ o : SObj, o ∈ m2 → o.own = true ∨ o.own = false ∧ o.cells = []) ∧ Le g2 s2 (oV 2 2 out.length) ∧ k (s2.up m.length) (m ++ m2.map (SObj.up m.length)) := fun out m' ho hm' => by
    subst ho
    refine fin_row gV_len (by omega) _ _ _ 2 (fun h => by rw [h]; rfl) (fun h => ⟨if_neg fun e => h (List.length_eq_zero_iff.1 e), hm' h⟩) hk
  have hO : ∀ out : List Ra.Rg, out ≠ [] → some (oO (vL gV out)) = some ⟨true, vL gV out⟩ := fun out h => by
    rw [oO_vL gV_len (by omega)]
    cases out with
    | nil => exact (h rfl).elim
    | cons r o => rfl
  refine app_e (by omega) (by omega) (fun h => ?_) (fun H hne hH => ?_)
  · refine .inr ⟨none, 0, rfl, ?_⟩
    simp (maxSteps := 2000000) -implicitDefEqProofs only [s_alt, s_alt20, s_alt2t, s_alt2f, ↓s_loopi, ↓v_pq, ↓PRE, POST, CORE, Nat.reduceDiv, Nat.reduceMod, Int.reduceLT, Int.reduceLE, Int.reduceToNat, Int.reduceAdd, ↓reduceIte, Nat.reduceEqDiff, Nat.reduceAdd, Nat.reduceMul, Nat.reduceSub, Nat.reduceLeDiff, Nat.reduceLT, reduceCtorEq, if_true, eq_self, forall_const, implies_true]
    refine TXi_of (TX_count (g0 _) 0 (fun x => [(8, .v (.slice none 0 0)), (24, .v (.int .i64 0)), (25, .v (.int .i64 0))]) (fun x => []) (fun _ => True) trivial ?_ (fun x hx _ => absurd hx (Nat.not_lt_zero x)) ?_)
    · exact (by refine ⟨[], by simp [NdL, NdA, oO_cells, oO_own, iL_nil], ?_, ?_, keep0 hJ⟩ <;> simp only [FitM, FitE, ObLe, LeL, Le, List.cons_append, List.nil_append] <;> (try (simp (maxSteps := 2000000) -implicitDefEqProofs only [s_alt, s_alt20, s_alt2t, s_alt2f, ↓s_loopi, ↓v_pq, ↓PRE, POST, CORE, Nat.reduceDiv, Nat.reduceMod, Int.reduceLT, Int.reduceLE, Int.reduceToNat, Int.reduceAdd, ↓reduceIte, Nat.reduceEqDiff, Nat.reduceAdd, Nat.reduceMul, Nat.reduceSub, Nat.reduceLeDiff, Nat.reduceLT, reduceCtorEq, if_true, eq_self, forall_const, implies_true])) <;> (try simp only [Sz.Le, Sz.LeL, List.getElem?_cons_zero, List.getElem?_cons_succ]) <;> (try simp))
    · intro _
      have hf := fin [] [] (by have := hsw [] (by rw [h]) (by simp); exact this) (fun h => (h rfl).elim)
      rw [List.length_nil, oV_0] at hf
      simp (maxSteps := 2000000) -implicitDefEqProofs only [s_alt, s_alt20, s_alt2t, s_alt2f, ↓s_loopi, ↓v_pq, ↓PRE, POST, CORE, Nat.reduceDiv, Nat.reduceMod, Int.reduceLT, Int.reduceLE, Int.reduceToNat, Int.reduceAdd, ↓reduceIte, Nat.reduceEqDiff, Nat.reduceAdd, Nat.reduceMul, Nat.reduceSub, Nat.reduceLeDiff, Nat.reduceLT, reduceCtorEq, if_true, eq_self, forall_const, implies_true]
      exact hf
  · rcases H with _ | ⟨o1, _ | ⟨o2, _ | ⟨o3, H⟩⟩⟩
    · refine .inl ⟨0, A ++ B, rfl, rfl, by rw [List.length_append]; omega, fun es hp hs => ?_⟩
      rw [← hp.length_eq]
      simp (maxSteps := 2000000) -implicitDefEqProofs only [s_alt, s_alt20, s_alt2t, s_alt2f, ↓s_loopi, ↓v_pq, ↓PRE, POST, CORE, Nat.reduceDiv, Nat.reduceMod, Int.reduceLT, Int.reduceLE, Int.reduceToNat, Int.reduceAdd, ↓reduceIte, Nat.reduceEqDiff, Nat.reduceAdd, Nat.reduceMul, Nat.reduceSub, Nat.reduceLeDiff, Nat.reduceLT, reduceCtorEq, if_true, eq_self, forall_const, implies_true]
      refine TXi_of (loop58 hJ (hg J) g91 g92 es (hup es hp) (hln es hp) (fit58i hJ (i := 0) (j := 1) (by omega) rfl rfl rfl rfl rfl rfl rfl rfl rfl) (fun ps hps => ?_))
      have j0 : ¬ (es.length : Int) < (es.length : Int) := by omega
      have hf := fin _ (M58 es ps (Ra.sw T es es.length)) (hsw es hp hs) (fun h => hO _ h)
      generalize Ra.sw T es es.length = out at hf ⊢
      unfold L58
      simp (maxSteps := 2000000) -implicitDefEqProofs only [↓body58, j0, s_alt, s_alt20, s_alt2t, s_alt2f, ↓s_loopi, ↓v_pq, ↓PRE, POST, CORE, Nat.reduceDiv, Nat.reduceMod, Int.reduceLT, Int.reduceLE, Int.reduceToNat, Int.reduceAdd, ↓reduceIte, Nat.reduceEqDiff, Nat.reduceAdd, Nat.reduceMul, Nat.reduceSub, Nat.reduceLeDiff, Nat.reduceLT, reduceCtorEq, if_true, eq_self, forall_const, implies_true]
      exact hf
    · refine .inl ⟨1, A ++ B, rfl, rfl, by rw [List.length_append]; omega, fun es hp hs => ?_⟩
      rw [← hp.length_eq]
      simp (maxSteps := 2000000) -implicitDefEqProofs only [s_alt, s_alt20, s_alt2t, s_alt2f, ↓s_loopi, ↓v_pq, ↓PRE, POST, CORE, Nat.reduceDiv, Nat.reduceMod, Int.reduceLT, Int.reduceLE, Int.reduceToNat, Int.reduceAdd, ↓reduceIte, Nat.reduceEqDiff, Nat.reduceAdd, Nat.reduceMul, Nat.reduceSub, Nat.reduceLeDiff, Nat.reduceLT, reduceCtorEq, if_true, eq_self, forall_const, implies_true]
      refine TXi_of (loop58 hJ (hg J) g91 g92 es (hup es hp) (hln es hp) (fit58i hJ (i := 1) (j := 2) (by omega) rfl rfl rfl rfl rfl rfl rfl rfl rfl) (fun ps hps => ?_))
      have j0 : ¬ (es.length : Int) < (es.length : Int) := by omega
      have hf := fin _ (M58 es ps (Ra.sw T es es.length)) (hsw es hp hs) (fun h => hO _ h)
      generalize Ra.sw T es es.length = out at hf ⊢
      unfold L58
      simp (maxSteps := 2000000) -implicitDefEqProofs only [↓body58, j0, s_alt, s_alt20, s_alt2t, s_alt2f, ↓s_loopi, ↓v_pq, ↓PRE, POST, CORE, Nat.reduceDiv, Nat.reduceMod, Int.reduceLT, Int.reduceLE, Int.reduceToNat, Int.reduceAdd, ↓reduceIte, Nat.reduceEqDiff, Nat.reduceAdd, Nat.reduceMul, Nat.reduceSub, Nat.reduceLeDiff, Nat.reduceLT, reduceCtorEq, if_true, eq_self, forall_const, implies_true]
      exact hf
    · refine .inl ⟨2, A ++ B, rfl, rfl, by rw [List.length_append]; omega, fun es hp hs => ?_⟩
      rw [← hp.length_eq]
      simp (maxSteps := 2000000) -implicitDefEqProofs only [s_alt, s_alt20, s_alt2t, s_alt2f, ↓s_loopi, ↓v_pq, ↓PRE, POST, CORE, Nat.reduceDiv, Nat.reduceMod, Int.reduceLT, Int.reduceLE, Int.reduceToNat, Int.reduceAdd, ↓reduceIte, Nat.reduceEqDiff, Nat.reduceAdd, Nat.reduceMul, Nat.reduceSub, Nat.reduceLeDiff, Nat.reduceLT, reduceCtorEq, if_true, eq_self, forall_const, implies_true]
      refine TXi_of (loop58 hJ (hg J) g91 g92 es (hup es hp) (hln es hp) (fit58i hJ (i := 2) (j := 3) (by omega) rfl rfl rfl rfl rfl rfl rfl rfl rfl) (fun ps hps => ?_))
      have j0 : ¬ (es.length : Int) < (es.length : Int) := by omega
      have hf := fin _ (M58 es ps (Ra.sw T es es.length)) (hsw es hp hs) (fun h => hO _ h)
      generalize Ra.sw T es es.length = out at hf ⊢
      unfold L58
      simp (maxSteps := 2000000) -implicitDefEqProofs only [↓body58, j0, s_alt, s_alt20, s_alt2t, s_alt2f, ↓s_loopi, ↓v_pq, ↓PRE, POST, CORE, Nat.reduceDiv, Nat.reduceMod, Int.reduceLT, Int.reduceLE, Int.reduceToNat, Int.reduceAdd, ↓reduceIte, Nat.reduceEqDiff, Nat.reduceAdd, Nat.reduceMul, Nat.reduceSub, Nat.reduceLeDiff, Nat.reduceLT, reduceCtorEq, if_true, eq_self, forall_const, implies_true]
      exact hf
    · simp at hH
end Rc
end Go.Proofs.Ytcejgadbpahbmaa
end
section
namespace Go.Proofs.Ytcejgadbpahbmaa
open Go.RowKit Sz
set_option maxHeartbeats 16000000
set_option maxRecDepth 20000
namespace Rc
-- almshouse/ranges.With (2 parameters)
def x26 : XC := (.seq (.tree (.seq ⟨some 4, none, (.ofA (.mv (.cst (.v (.slice none 0 0)))))⟩
 .done))
 (.seq (.tree (.seq ⟨some 5, none, (.ofA (.mv (.tmp 0)))⟩
 (.seq ⟨some 6, none, (.ofA (.mv (.tmp 1)))⟩
 (.seq ⟨some 7, none, (.call (.cst (.fn 58 [])) [(.tmp 5), (.tmp 6), (.cst (.fn 59 []))])⟩
 (.seq ⟨some 4, none, (.ofA (.mv (.tmp 7)))⟩
 .done)))))
 .ret))
def r26 : List XR := [.tmp 4]
theorem fn26 : FnX Try.prog 26 [92] 8 x26 r26 := ⟨_, Try.func26, by kernel_rfl, by kernel_rfl, by kernel_rfl, by kernel_rfl⟩
-- almshouse/ranges.But (2 parameters)
def x27 : XC := (.seq (.tree (.seq ⟨some 4, none, (.ofA (.mv (.cst (.v (.slice none 0 0)))))⟩
 .done))
 (.seq (.tree (.seq ⟨some 5, none, (.ofA (.mv (.tmp 0)))⟩
 (.seq ⟨some 6, none, (.ofA (.mv (.tmp 1)))⟩
 (.seq ⟨some 7, none, (.call (.cst (.fn 58 [])) [(.tmp 5), (.tmp 6), (.cst (.fn 60 []))])⟩
 (.seq ⟨some 4, none, (.ofA (.mv (.tmp 7)))⟩
 .done)))))
 .ret))
def r27 : List XR := [.tmp 4]
theorem fn27 : FnX Try.prog 27 [92] 8 x27 r27 := ⟨_, Try.func27, by kernel_rfl, by kernel_rfl, by kernel_rfl, by kernel_rfl⟩
-- almshouse/ranges.Both (2 parameters)
def x28 : XC := (.seq (.tree (.seq ⟨some 4, none, (.ofA (.mv (.cst (.v (.slice none 0 0)))))⟩
 .done))
 (.seq (.tree (.seq ⟨some 5, none, (.ofA (.mv (.tmp 0)))⟩
 (.seq ⟨some 6, none, (.ofA (.mv (.tmp 1)))⟩
 (.seq ⟨some 7, none, (.call (.cst (.fn 58 [])) [(.tmp 5), (.tmp 6), (.cst (.fn 61 []))])⟩
 (.seq ⟨some 4, none, (.ofA (.mv (.tmp 7)))⟩
 .done)))))
 .ret))
def r28 : List XR := [.tmp 4]
theorem fn28 : FnX Try.prog 28 [92] 8 x28 r28 := ⟨_, Try.func28, by kernel_rfl, by kernel_rfl, by kernel_rfl, by kernel_rfl⟩
-- almshouse/ranges.Set (1 parameters)
def x29 : XC := (.seq (.tree (.seq ⟨some 2, none, (.ofA (.mv (.cst (.v (.slice none 0 0)))))⟩
 .done))
 (.seq (.tree (.seq ⟨some 3, none, (.ofA (.mv (.tmp 0)))⟩
 (.seq ⟨some 4, none, (.call (.cst (.fn 26 [])) [(.tmp 3), (.cst (.v (.slice none 0 0)))])⟩
 (.seq ⟨some 2, none, (.ofA (.mv (.tmp 4)))⟩
 .done))))
 .ret))
def r29 : List XR := [.tmp 2]
theorem fn29 : FnX Try.prog 29 [92] 5 x29 r29 := ⟨_, Try.func29, by kernel_rfl, by kernel_rfl, by kernel_rfl, by kernel_rfl⟩
-- almshouse/ranges.Count (1 parameters)
def x24 : XC := (.seq (.tree (.seq ⟨some 2, none, (.ofA (.mv (.cst (.v (.int .i64 0)))))⟩
 .done))
 (.seq (.tree (.seq ⟨some 3, none, (.ofA (.mv (.cst (.v (.int .i64 0)))))⟩
 .done))
 (.seq (.seq (.tree (.seq ⟨some 6, none, (.ofA (.mv (.tmp 0)))⟩
 (.seq ⟨some 7, none, (.call (.cst (.fn 29 [])) [(.tmp 6)])⟩
 (.seq ⟨some 8, none, (.ofA (.len (.tmp 7)))⟩
 (.seq ⟨some 9, none, (.ofA (.mv (.cst (.v (.int .i64 0)))))⟩
 .done)))))
 (.block 0 (.loop (.seq (.tree (.seq ⟨some 10, none, (.ofA (.bin .lss (.tmp 9) (.tmp 8)))⟩
 .done))
 (.seq (.cond (.tmp 10)
 .skip
 (.exit 0))
 (.seq (.block 1 (.seq (.tree (.seq ⟨some 11, none, (.ofA (.isl 2 (.tmp 7) (.tmp 9)))⟩
 (.seq ⟨some 12, none, (.ofA (.load (some 2) (.tmp 11)))⟩
 (.seq ⟨some 5, none, (.alloc [(.v (.int .i64 0)), (.v (.int .i64 0))])⟩
 (.seq ⟨none, none, (.store 2 (.tmp 5) (.tmp 12))⟩
 .done)))))
 (.tree (.seq ⟨some 13, none, (.ofA (.mv (.tmp 3)))⟩
 (.seq ⟨some 14, none, (.ofA (.faddr 1 (.tmp 5)))⟩
 (.seq ⟨some 15, none, (.ofA (.load none (.tmp 14)))⟩
 (.seq ⟨some 16, none, (.ofA (.faddr 0 (.tmp 5)))⟩
 (.seq ⟨some 17, none, (.ofA (.load none (.tmp 16)))⟩
 (.seq ⟨some 18, none, (.ofA (.bin .sub (.tmp 15) (.tmp 17)))⟩
 (.seq ⟨some 19, none, (.ofA (.bin .add (.tmp 13) (.tmp 18)))⟩
 (.seq ⟨some 3, none, (.ofA (.mv (.tmp 19)))⟩
 .done)))))))))))
 (.tree (.seq ⟨some 20, none, (.ofA (.bin .add (.tmp 9) (.cst (.v (.int .i64 1)))))⟩
 (.seq ⟨some 9, none, (.ofA (.mv (.tmp 20)))⟩
 .done)))))))))
 (.seq (.tree (.seq ⟨some 21, none, (.ofA (.mv (.tmp 3)))⟩
 (.seq ⟨some 2, none, (.ofA (.mv (.tmp 21)))⟩
 .done)))
 .ret))))
def r24 : List XR := [.tmp 2]
theorem fn24 : FnX Try.prog 24 [92] 22 x24 r24 := ⟨_, Try.func24, by kernel_rfl, by kernel_rfl, by kernel_rfl, by kernel_rfl⟩
def cMix [Inp] (T : Bool → Bool → Bool) : Trans := fun args m k => ∃ (s1 s2 : SV) (a b : List Ra.Rg), args = [s1, s2] ∧ rdG m s1 = some a ∧ rdG m s2 = some b ∧ a.length ≤ 10000 ∧ b.length ≤ 10000 ∧ k (rS m.length 2 (Ra.swp T a b).length) (m ++ rM (vL gV (Ra.swp T a b)))
theorem s58_59 [Inp] : GOk Try.prog [⟨58, true, c58 59 Ra.tOr⟩] := GOk.cons (c58_ok rfl (fun J => @c59_ok J) (by simp) (by simp)) (g0 _)
theorem s58_60 [Inp] : GOk Try.prog [⟨58, true, c58 60 Ra.tBut⟩] := GOk.cons (c58_ok rfl (fun J => @c60_ok J) (by simp) (by simp)) (g0 _)
theorem s58_61 [Inp] : GOk Try.prog [⟨58, true, c58 61 Ra.tAnd⟩] := GOk.cons (c58_ok rfl (fun J => @c61_ok J) (by simp) (by simp)) (g0 _)
theorem fin_g {k : SV → Mem → Prop} {m : Mem} (L : List Ra.Rg) (h3 : k (rS m.length 2 L.length) (m ++ rM (vL gV L))) : ∃ (g2 : List Nat) (s2 : SV) (m2 : Mem), NdL g2 m2 ∧ FitM g2 (rM (vL gV L)) g2 m2 ∧ (∀ o ∈ m2, o.own = true ∨ (o.own = false ∧ o.cells = [])) ∧ Le g2 s2 (rS 0 2 L.length) ∧ k (s2.up m.length) (m ++ m2.map (SObj.up m.length)) :=
  fin_row gV_len (by omega) _ _ _ 0 (fun h => by rw [h]; rfl) (fun h => ⟨rS_ne (fun e => h (List.length_eq_zero_iff.1 e)), rM_at gV_len (by omega) h⟩) h3
theorem c26_ok [I : Inp] : Contract Try.prog 26 true (cMix Ra.tOr) := by
  refine .readF3 fn26 (G := fun J => [⟨58, true, @c58 J 59 Ra.tOr⟩]) (fun J => @s58_59 J) _ fun args m k h => ?_
  obtain ⟨s1, s2, a, b, rfl, ha, hb, hna, hnb, hk⟩ := h
  refine ⟨by simp, fun J hJ us hus => ?_⟩
  obtain ⟨u, t1, rfl, hu1, u2, t2, rfl, hu2, rfl⟩ := hus
  obtain ⟨p, cc, rfl, hin⟩ := rdG_knows ha hu1
  obtain ⟨p', cc', rfl, hin'⟩ := rdG_knows hb hu2
  rw [List.map_cons, List.map_cons, List.map_nil, of_sl, of_sl]
  simp (maxSteps := 2000000) -implicitDefEqProofs only [↓x26, ↓r26, ↓c58, s_alt, s_alt20, s_alt2t, s_alt2f, ↓s_loopi, ↓v_pq, ↓PRE, POST, CORE, Nat.reduceDiv, Nat.reduceMod, Int.reduceLT, Int.reduceLE, Int.reduceToNat, Int.reduceAdd, ↓reduceIte, Nat.reduceEqDiff, Nat.reduceAdd, Nat.reduceMul, Nat.reduceSub, Nat.reduceLeDiff, Nat.reduceLT, reduceCtorEq, if_true, eq_self, forall_const, implies_true]
  exact ⟨_, _, a, b, rfl, rdG_v hin, rdG_v hin', hna, hnb, fin_g _ hk⟩
theorem c27_ok [I : Inp] : Contract Try.prog 27 true (cMix Ra.tBut) := by
  refine .readF3 fn27 (G := fun J => [⟨58, true, @c58 J 60 Ra.tBut⟩]) (fun J => @s58_60 J) _ fun args m k h => ?_
  obtain ⟨s1, s2, a, b, rfl, ha, hb, hna, hnb, hk⟩ := h
  refine ⟨by simp, fun J hJ us hus => ?_⟩
  obtain ⟨u, t1, rfl, hu1, u2, t2, rfl, hu2, rfl⟩ := hus
  obtain ⟨p, cc, rfl, hin⟩ := rdG_knows ha hu1
  obtain ⟨p', cc', rfl, hin'⟩ := rdG_knows hb hu2
  rw [List.map_cons, List.map_cons, List.map_nil, of_sl, of_sl]
  simp (maxSteps := 2000000) -implicitDefEqProofs only [↓x27, ↓r27, ↓c58, s_alt, s_alt20, s_alt2t, s_alt2f, ↓s_loopi, ↓v_pq, ↓PRE, POST, CORE, Nat.reduceDiv, Nat.reduceMod, Int.reduceLT, Int.reduceLE, Int.reduceToNat, Int.reduceAdd, ↓reduceIte, Nat.reduceEqDiff, Nat.reduceAdd, Nat.reduceMul, Nat.reduceSub, Nat.reduceLeDiff, Nat.reduceLT, reduceCtorEq, if_true, eq_self, forall_const, implies_true]
  exact ⟨_, _, a, b, rfl, rdG_v hin, rdG_v hin', hna, hnb, fin_g _ hk⟩
theorem c28_ok [I : Inp] : Contract Try.prog 28 true (cMix Ra.tAnd) := by
  refine .readF3 fn28 (G := fun J => [⟨58, true, @c58 J 61 Ra.tAnd⟩]) (fun J => @s58_61 J) _ fun args m k h => ?_
  obtain ⟨s1, s2, a, b, rfl, ha, hb, hna, hnb, hk⟩ := h
  refine ⟨by simp, fun J hJ us hus => ?_⟩
  obtain ⟨u, t1, rfl, hu1, u2, t2, rfl, hu2, rfl⟩ := hus
  obtain ⟨p, cc, rfl, hin⟩ := rdG_knows ha hu1
  obtain ⟨p', cc', rfl, hin'⟩ := rdG_knows hb hu2
  rw [List.map_cons, List.map_cons, List.map_nil, of_sl, of_sl]
  simp (maxSteps := 2000000) -implicitDefEqProofs only [↓x28, ↓r28, ↓c58, s_alt, s_alt20, s_alt2t, s_alt2f, ↓s_loopi, ↓v_pq, ↓PRE, POST, CORE, Nat.reduceDiv, Nat.reduceMod, Int.reduceLT, Int.reduceLE, Int.reduceToNat, Int.reduceAdd, ↓reduceIte, Nat.reduceEqDiff, Nat.reduceAdd, Nat.reduceMul, Nat.reduceSub, Nat.reduceLeDiff, Nat.reduceLT, reduceCtorEq, if_true, eq_self, forall_const, implies_true]
  exact ⟨_, _, a, b, rfl, rdG_v hin, rdG_v hin', hna, hnb, fin_g _ hk⟩
def setG (l : List Ra.Rg) : List Ra.Rg := Ra.swp Ra.tOr l []
def c29 [Inp] : Trans := fun args m k => ∃ (s : SV) (l : List Ra.Rg), args = [s] ∧ rdG m s = some l ∧ l.length ≤ 10000 ∧ k (rS m.length 2 (setG l).length) (m ++ rM (vL gV (setG l)))
theorem s26 [Inp] : GOk Try.prog [⟨26, true, cMix Ra.tOr⟩] := GOk.cons c26_ok (g0 _)
theorem c29_ok [I : Inp] : Contract Try.prog 29 true c29 := by
  refine .readF3 fn29 (G := fun J => [⟨26, true, @cMix J Ra.tOr⟩]) (fun J => @s26 J) _ fun args m k h => ?_
  obtain ⟨s, l, rfl, hl, hmax, hk⟩ := h
  refine ⟨by simp, fun J hJ us hus => ?_⟩
  obtain ⟨u, t1, rfl, hu1, rfl⟩ := hus
  obtain ⟨p, cc, rfl, hin⟩ := rdG_knows hl hu1
  rw [List.map_cons, List.map_nil, of_sl]
  simp (maxSteps := 2000000) -implicitDefEqProofs only [↓x29, ↓r29, ↓cMix, s_alt, s_alt20, s_alt2t, s_alt2f, ↓s_loopi, ↓v_pq, ↓PRE, POST, CORE, Nat.reduceDiv, Nat.reduceMod, Int.reduceLT, Int.reduceLE, Int.reduceToNat, Int.reduceAdd, ↓reduceIte, Nat.reduceEqDiff, Nat.reduceAdd, Nat.reduceMul, Nat.reduceSub, Nat.reduceLeDiff, Nat.reduceLT, reduceCtorEq, if_true, eq_self, forall_const, implies_true]
  exact ⟨_, _, l, [], rfl, rdG_v hin, rdG_nil, hmax, by simp, fin_g _ hk⟩
theorem setG_len (l : List Ra.Rg) : (setG l).length ≤ 2 * l.length := by
  have := Ra.swp_len Ra.tOr l []
  unfold setG
  simpa using this
def c24 [Inp] : Trans := fun args m k => ∃ (s : SV) (l : List Ra.Rg), args = [s] ∧ rdG m s = some l ∧ l.length ≤ 10000 ∧ k (.v (.int .i64 (Ra.lenS (setG l)))) m
theorem s29 [Inp] : GOk Try.prog [⟨29, true, c29⟩] := GOk.cons c29_ok (g0 _)
theorem wsum (a x y : Int) : IntKind.i64.wrap (IntKind.i64.wrap a + IntKind.i64.wrap (y - x)) = IntKind.i64.wrap (a + (y - x)) := by
  rw [IntKind.wrap_i64, IntKind.wrap_i64, IntKind.wrap_i64, IntKind.wrap_i64]
  omega
theorem lenS_snoc (L : List Ra.Rg) (r : Ra.Rg) : Ra.lenS (L ++ [r]) = Ra.lenS L + (r.to - r.fr) := by simp [Ra.lenS]
theorem c24_ok [I : Inp] : Contract Try.prog 24 true c24 := by
  refine .read fn24 (G := fun J => [⟨29, true, @c29 J⟩]) (fun J => @s29 J) _ fun args m k h => ?_
  obtain ⟨s, l, rfl, hl, hmax, hk⟩ := h
  refine ⟨by simp, fun J hJ us hus => ?_⟩
  obtain ⟨u, t1, rfl, hu1, rfl⟩ := hus
  obtain ⟨p, cc, rfl, hin⟩ := rdG_knows hl hu1
  rw [List.map_cons, List.map_nil, of_sl]
  simp (maxSteps := 2000000) -implicitDefEqProofs only [↓x24, ↓r24, ↓c29, s_alt, s_alt20, s_alt2t, s_alt2f, ↓s_loopi, ↓v_pq, ↓PRE, POST, CORE, Nat.reduceDiv, Nat.reduceMod, Int.reduceLT, Int.reduceLE, Int.reduceToNat, Int.reduceAdd, ↓reduceIte, Nat.reduceEqDiff, Nat.reduceAdd, Nat.reduceMul, Nat.reduceSub, Nat.reduceLeDiff, Nat.reduceLT, reduceCtorEq, if_true, eq_self, forall_const, implies_true]
  refine ⟨_, l, rfl, rdG_v hin, hmax, ?_⟩
  have hset : Ra.isSet Ra.tOr l [] (setG l) := Ra.swp_set rfl l []
  have hlen := setG_len l
  have hin2 := Ra.lenS_in hset.2.1 hset.1
  generalize setG l = S at hlen hk hin2 ⊢
  clear hset
  simp (maxSteps := 2000000) -implicitDefEqProofs only [s_len, s_alt, s_alt20, s_alt2t, s_alt2f, ↓s_loopi, ↓v_pq, ↓PRE, POST, CORE, Nat.reduceDiv, Nat.reduceMod, Int.reduceLT, Int.reduceLE, Int.reduceToNat, Int.reduceAdd, ↓reduceIte, Nat.reduceEqDiff, Nat.reduceAdd, Nat.reduceMul, Nat.reduceSub, Nat.reduceLeDiff, Nat.reduceLT, reduceCtorEq, if_true, eq_self, forall_const, implies_true]
  refine TXi_of (TX_count (@s29 J) S.length (fun x => [(3, .v (.int .i64 (IntKind.i64.wrap (Ra.lenS (S.take x))))), (7, rS 0 2 S.length), (8, .v (.int .i64 (S.length : Int))), (9, .v (.int .i64 (x : Int)))]) (fun x => rM (vL gV S)) (fun x => True) trivial ?_ ?_ ?_)
  · have e0 : IntKind.i64.wrap (Ra.lenS (S.take 0)) = 0 := rfl
    rw [e0]
    by_cases h0 : S = []
    · rw [h0, vL_nil, rM_0, List.length_nil, rS_0]
      exact (by refine ⟨[], by simp [NdL, NdA, oO_cells, oO_own, iL_nil], ?_, ?_, keep0 hJ⟩ <;> simp only [FitM, FitE, ObLe, LeL, Le, List.cons_append, List.nil_append] <;> (try (simp (maxSteps := 2000000) -implicitDefEqProofs only [s_alt, s_alt20, s_alt2t, s_alt2f, ↓s_loopi, ↓v_pq, ↓PRE, POST, CORE, Nat.reduceDiv, Nat.reduceMod, Int.reduceLT, Int.reduceLE, Int.reduceToNat, Int.reduceAdd, ↓reduceIte, Nat.reduceEqDiff, Nat.reduceAdd, Nat.reduceMul, Nat.reduceSub, Nat.reduceLeDiff, Nat.reduceLT, reduceCtorEq, if_true, eq_self, forall_const, implies_true])) <;> (try simp only [Sz.Le, Sz.LeL, List.getElem?_cons_zero, List.getElem?_cons_succ]) <;> (try simp))
    · rw [rM_ne (vL_ne gV_len (by omega) h0), rS_ne (fun e => h0 (List.length_eq_zero_iff.1 e))]
      exact (by refine ⟨[0], by simp [NdL, NdA, oO_cells, oO_own, iL_nil], ?_, ?_, keep0 hJ⟩ <;> simp only [FitM, FitE, ObLe, LeL, Le, List.cons_append, List.nil_append] <;> (try (simp (maxSteps := 2000000) -implicitDefEqProofs only [vL_le, s_alt, s_alt20, s_alt2t, s_alt2f, ↓s_loopi, ↓v_pq, ↓PRE, POST, CORE, Nat.reduceDiv, Nat.reduceMod, Int.reduceLT, Int.reduceLE, Int.reduceToNat, Int.reduceAdd, ↓reduceIte, Nat.reduceEqDiff, Nat.reduceAdd, Nat.reduceMul, Nat.reduceSub, Nat.reduceLeDiff, Nat.reduceLT, reduceCtorEq, if_true, eq_self, forall_const, implies_true])) <;> (try simp only [Sz.Le, Sz.LeL, List.getElem?_cons_zero, List.getElem?_cons_succ]) <;> (try simp))
  · intro x hx _
    obtain ⟨r, hr⟩ : ∃ r, S[x]? = some r := ⟨_, List.getElem?_eq_getElem hx⟩
    have f2 : ((vL gV S).drop (x * 2)).take 2 = [.v (.int .i64 r.fr), .v (.int .i64 r.to)] := vL_item gV_len hr
    have i0 : (0 : Int) ≤ (x : Int) := by omega
    have i1 : (x : Int) < (S.length : Int) := by omega
    have w1 : IntKind.i64.wrap ((x : Int) + 1) = (x : Int) + 1 := Sz.w_64 (by omega) (by omega)
    have w2 := wsum (Ra.lenS (S.take x)) r.fr r.to
    rw [← lenS_snoc, ← take_snoc hr] at w2
    have h0 : S ≠ [] := fun e => by rw [e] at hx; simp at hx
    have hl : x * 2 + 2 ≤ (vL gV S).length := by rw [g_len]; omega
    have hle : ∀ g, LeL g (vL gV S) (vL gV S) = True := fun g => vL_le
    rw [rM_ne (vL_ne gV_len (by omega) h0), rS_ne (fun e => h0 (List.length_eq_zero_iff.1 e))]
    simp (maxSteps := 2000000) -implicitDefEqProofs only [i0, i1, f2, hl, w1, w2, s_alt, s_alt20, s_alt2t, s_alt2f, ↓s_loopi, ↓v_pq, ↓PRE, POST, CORE, Nat.reduceDiv, Nat.reduceMod, Int.reduceLT, Int.reduceLE, Int.reduceToNat, Int.reduceAdd, ↓reduceIte, Nat.reduceEqDiff, Nat.reduceAdd, Nat.reduceMul, Nat.reduceSub, Nat.reduceLeDiff, Nat.reduceLT, reduceCtorEq, if_true, eq_self, forall_const, implies_true]
    exact (by refine ⟨[0], by simp [NdL, NdA, oO_cells, oO_own, iL_nil], ?_, ?_, keep0 hJ⟩ <;> simp only [FitM, FitE, ObLe, LeL, Le, List.cons_append, List.nil_append] <;> (try (simp (maxSteps := 2000000) -implicitDefEqProofs only [hle, s_alt, s_alt20, s_alt2t, s_alt2f, ↓s_loopi, ↓v_pq, ↓PRE, POST, CORE, Nat.reduceDiv, Nat.reduceMod, Int.reduceLT, Int.reduceLE, Int.reduceToNat, Int.reduceAdd, ↓reduceIte, Nat.reduceEqDiff, Nat.reduceAdd, Nat.reduceMul, Nat.reduceSub, Nat.reduceLeDiff, Nat.reduceLT, reduceCtorEq, if_true, eq_self, forall_const, implies_true])) <;> (try simp only [Sz.Le, Sz.LeL, List.getElem?_cons_zero, List.getElem?_cons_succ]) <;> (try simp))
  · intro _
    have j0 : ¬ (S.length : Int) < (S.length : Int) := by omega
    have w2 : IntKind.i64.wrap (Ra.lenS S) = Ra.lenS S := Sz.w_64 (by unfold Ra.Mx at hin2; omega) (by unfold Ra.Mx at hin2; omega)
    rw [List.take_length, w2]
    simp (maxSteps := 2000000) -implicitDefEqProofs only [j0, s_alt, s_alt20, s_alt2t, s_alt2f, ↓s_loopi, ↓v_pq, ↓PRE, POST, CORE, Nat.reduceDiv, Nat.reduceMod, Int.reduceLT, Int.reduceLE, Int.reduceToNat, Int.reduceAdd, ↓reduceIte, Nat.reduceEqDiff, Nat.reduceAdd, Nat.reduceMul, Nat.reduceSub, Nat.reduceLeDiff, Nat.reduceLT, reduceCtorEq, if_true, eq_self, forall_const, implies_true]
    exact hk
end Rc
end Go.Proofs.Ytcejgadbpahbmaa
end
section
namespace Go.Proofs.Ytcejgadbpahbmaa
open Go.RowKit Sz
set_option maxHeartbeats 16000000
set_option maxRecDepth 20000
namespace Rc
-- almshouse/ranges.Has$1 (1 parameters)
def x88 : XC := (.seq (.tree (.seq ⟨some 2, none, (.box (.tmp 0))⟩
 (.seq ⟨some 3, none, (.ofA (.mv (.cst (.v (.bool false)))))⟩
 .done)))
 (.seq (.tree (.take ⟨some 4, none, (.ofA (.faddr 0 (.tmp 2)))⟩
 (.take ⟨some 5, none, (.ofA (.load none (.tmp 4)))⟩
 (.take ⟨some 7, none, (.ofA (.load none (.tmp 1)))⟩
 (.act true [(⟨some 6, none, (.call (.cst (.fn 89 [])) [(.tmp 5)])⟩,
 (.take ⟨some 8, none, (.ofA (.bin .leq (.tmp 6) (.tmp 7)))⟩
 (.take ⟨some 9, none, (.ofA (.mv (.tmp 8)))⟩
 (.take ⟨some 10, some (9, true), (.ofA (.load none (.tmp 1)))⟩
 (.take ⟨some 11, some (9, true), (.ofA (.faddr 1 (.tmp 2)))⟩
 (.take ⟨some 12, some (9, true), (.ofA (.load none (.tmp 11)))⟩
 (.act true [(⟨some 13, some (9, true), (.call (.cst (.fn 89 [])) [(.tmp 12)])⟩,
 (.take ⟨some 14, some (9, true), (.ofA (.bin .lss (.tmp 10) (.tmp 13)))⟩
 (.take ⟨some 15, none, (.ofA (.pick (.tmp 9) (.tmp 14) (.cst (.v (.bool false)))))⟩
 (.take ⟨some 3, none, (.ofA (.mv (.tmp 15)))⟩
 .done))))])))))))])))))
 .ret))
def r88 : List XR := [.tmp 3]
theorem fn88 : FnX Try.prog 88 [92] 16 x88 r88 := ⟨_, Try.func88, by kernel_rfl, by kernel_rfl, by kernel_rfl, by kernel_rfl⟩
-- slices.IndexFunc[[]almshouse/ranges.Range,almshouse/ranges.Range] (2 parameters)
def x111 : XC := (.seq (.tree (.seq ⟨some 4, none, (.ofA (.mv (.cst (.v (.int .i64 0)))))⟩
 .done))
 (.seq (.seq (.tree (.seq ⟨some 6, none, (.ofA (.mv (.tmp 0)))⟩
 (.seq ⟨some 7, none, (.ofA (.len (.tmp 6)))⟩
 (.seq ⟨some 8, none, (.ofA (.mv (.cst (.v (.int .i64 0)))))⟩
 .done))))
 (.block 0 (.loop (.seq (.tree (.seq ⟨some 9, none, (.ofA (.bin .lss (.tmp 8) (.tmp 7)))⟩
 .done))
 (.seq (.cond (.tmp 9)
 .skip
 (.exit 0))
 (.seq (.block 1 (.seq (.tree (.seq ⟨some 10, none, (.ofA (.mv (.tmp 8)))⟩
 (.seq ⟨some 5, none, (.ofA (.mv (.tmp 10)))⟩
 .done)))
 (.seq (.tree (.seq ⟨some 11, none, (.ofA (.mv (.tmp 1)))⟩
 (.seq ⟨some 12, none, (.ofA (.mv (.tmp 0)))⟩
 (.seq ⟨some 13, none, (.ofA (.mv (.tmp 5)))⟩
 (.seq ⟨some 14, none, (.ofA (.isl 2 (.tmp 12) (.tmp 13)))⟩
 (.seq ⟨some 15, none, (.ofA (.load (some 2) (.tmp 14)))⟩
 (.seq ⟨some 16, none, (.call (.tmp 11) [(.tmp 15)])⟩
 .done)))))))
 (.cond (.tmp 16)
 (.seq (.tree (.seq ⟨some 17, none, (.ofA (.mv (.tmp 5)))⟩
 (.seq ⟨some 4, none, (.ofA (.mv (.tmp 17)))⟩
 .done)))
 .ret)
 .skip))))
 (.tree (.seq ⟨some 18, none, (.ofA (.bin .add (.tmp 8) (.cst (.v (.int .i64 1)))))⟩
 (.seq ⟨some 8, none, (.ofA (.mv (.tmp 18)))⟩
 .done)))))))))
 (.seq (.tree (.seq ⟨some 4, none, (.ofA (.mv (.cst (.v (.int .i64 (-1))))))⟩
 .done))
 .ret)))
def r111 : List XR := [.tmp 4]
theorem fn111 : FnX Try.prog 111 [92] 19 x111 r111 := ⟨_, Try.func111, by kernel_rfl, by kernel_rfl, by kernel_rfl, by kernel_rfl⟩
-- slices.ContainsFunc[[]almshouse/ranges.Range,almshouse/ranges.Range] (2 parameters)
def x87 : XC := (.seq (.tree (.seq ⟨some 4, none, (.ofA (.mv (.cst (.v (.bool false)))))⟩
 .done))
 (.seq (.tree (.seq ⟨some 5, none, (.ofA (.mv (.tmp 0)))⟩
 (.seq ⟨some 6, none, (.ofA (.mv (.tmp 1)))⟩
 (.seq ⟨some 7, none, (.call (.cst (.fn 111 [])) [(.tmp 5), (.tmp 6)])⟩
 (.seq ⟨some 8, none, (.ofA (.bin .geq (.tmp 7) (.cst (.v (.int .i64 0)))))⟩
 (.seq ⟨some 4, none, (.ofA (.mv (.tmp 8)))⟩
 .done))))))
 .ret))
def r87 : List XR := [.tmp 4]
theorem fn87 : FnX Try.prog 87 [92] 9 x87 r87 := ⟨_, Try.func87, by kernel_rfl, by kernel_rfl, by kernel_rfl, by kernel_rfl⟩
-- almshouse/ranges.Has (2 parameters)
def x54 : XC := (.seq (.tree (.seq ⟨some 3, none, (.box (.tmp 1))⟩
 (.seq ⟨some 4, none, (.ofA (.mv (.cst (.v (.bool false)))))⟩
 .done)))
 (.seq (.tree (.seq ⟨some 5, none, (.ofA (.mv (.tmp 0)))⟩
 (.seq ⟨some 6, none, (.ofA (.mkfn 88 [(.tmp 3)]))⟩
 (.seq ⟨some 7, none, (.call (.cst (.fn 87 [])) [(.tmp 5), (.tmp 6)])⟩
 (.seq ⟨some 4, none, (.ofA (.mv (.tmp 7)))⟩
 .done)))))
 .ret))
def r54 : List XR := [.tmp 4]
theorem fn54 : FnX Try.prog 54 [92] 8 x54 r54 := ⟨_, Try.func54, by kernel_rfl, by kernel_rfl, by kernel_rfl, by kernel_rfl⟩
-- almshouse/ranges.Of (1 parameters)
def x55 : XC := (.seq (.tree (.seq ⟨some 2, none, (.ofA (.mv (.cst (.v (.slice none 0 0)))))⟩
 .done))
 (.seq (.tree (.seq ⟨some 3, none, (.ofA (.mv (.cst (.v (.slice none 0 0)))))⟩
 .done))
 (.seq (.seq (.tree (.seq ⟨some 6, none, (.ofA (.mv (.tmp 0)))⟩
 (.seq ⟨some 7, none, (.ofA (.len (.tmp 6)))⟩
 (.seq ⟨some 8, none, (.ofA (.mv (.cst (.v (.int .i64 0)))))⟩
 .done))))
 (.block 0 (.loop (.seq (.tree (.seq ⟨some 9, none, (.ofA (.bin .lss (.tmp 8) (.tmp 7)))⟩
 .done))
 (.seq (.cond (.tmp 9)
 .skip
 (.exit 0))
 (.seq (.block 1 (.seq (.tree (.seq ⟨some 10, none, (.ofA (.isl 1 (.tmp 6) (.tmp 8)))⟩
 (.seq ⟨some 11, none, (.ofA (.load none (.tmp 10)))⟩
 (.seq ⟨some 5, none, (.ofA (.mv (.tmp 11)))⟩
 .done))))
 (.seq (.tree (.seq ⟨some 12, none, (.ofA (.mv (.tmp 5)))⟩
 (.seq ⟨some 13, none, (.call (.cst (.fn 89 [])) [(.tmp 12)])⟩
 (.seq ⟨some 14, none, (.ofA (.mx false (.tmp 13) [(.cst (.v (.int .i64 1099511627775)))]))⟩
 (.seq ⟨some 5, none, (.ofA (.mv (.tmp 14)))⟩
 .done)))))
 (.tree (.seq ⟨some 15, none, (.ofA (.mv (.tmp 3)))⟩
 (.seq ⟨some 16, none, (.ofA (.mv (.tmp 5)))⟩
 (.seq ⟨some 17, none, (.ofA (.mv (.tmp 5)))⟩
 (.seq ⟨some 18, none, (.ofA (.bin .add (.tmp 17) (.cst (.v (.int .i64 1)))))⟩
 (.seq ⟨some 19, none, (.build [(.v (.int .i64 0)), (.v (.int .i64 0))] [(0, 1, (.tmp 16)), (1, 1, (.tmp 18))])⟩
 (.seq ⟨some 20, none, (.buildSl 2 1 [(.v (.int .i64 0)), (.v (.int .i64 0))] [(0, 2, (.tmp 19))])⟩
 (.seq ⟨some 21, none, (.app 2 16 (.tmp 15) (.tmp 20))⟩
 (.seq ⟨some 3, none, (.ofA (.mv (.tmp 21)))⟩
 .done))))))))))))
 (.tree (.seq ⟨some 22, none, (.ofA (.bin .add (.tmp 8) (.cst (.v (.int .i64 1)))))⟩
 (.seq ⟨some 8, none, (.ofA (.mv (.tmp 22)))⟩
 .done)))))))))
 (.seq (.tree (.seq ⟨some 23, none, (.ofA (.mv (.tmp 3)))⟩
 (.seq ⟨some 24, none, (.call (.cst (.fn 29 [])) [(.tmp 23)])⟩
 (.seq ⟨some 2, none, (.ofA (.mv (.tmp 24)))⟩
 .done))))
 .ret))))
def r55 : List XR := [.tmp 2]
theorem fn55 : FnX Try.prog 55 [92] 25 x55 r55 := ⟨_, Try.func55, by kernel_rfl, by kernel_rfl, by kernel_rfl, by kernel_rfl⟩
def c88 [Inp] : Trans := fun args m k => ∃ (r : Ra.Rg) (n : Int) (j : Nat) (o : Bool), args = [.agg [.v (.int .i64 r.fr), .v (.int .i64 r.to)], .ptr j 0] ∧ m[j]? = some ⟨o, [.v (.int .i64 n)]⟩ ∧ k (.v (.bool (Ra.hit r n))) m
theorem s89 [Inp] : GOk Try.prog [⟨89, true, c89⟩] := GOk.cons c89_ok (g0 _)
theorem c88_ok [I : Inp] : Contract Try.prog 88 true c88 := by
  refine .plain fn88 s89 _ fun args m k h => ?_
  obtain ⟨r, n, j, o, rfl, hj, hk⟩ := h
  refine ⟨[j], [⟨false, [.v (.int .i64 n)]⟩], [.agg [.v (.int .i64 r.fr), .v (.int .i64 r.to)], .ptr 0 0], by simp, by simp [FitM, hj, ObLe, LeL, Le], by simp, by simp [LeL, Le], by simp, ?_⟩
  have hh : Ra.hit r n = (decide (Ra.clamp r.fr ≤ n) && decide (n < Ra.clamp r.to)) := rfl
  rw [hh] at hk
  by_cases h1 : Ra.clamp r.fr ≤ n
  · simp only [h1, decide_true, Bool.true_and] at hk
    simp (maxSteps := 2000000) -implicitDefEqProofs only [↓x88, ↓r88, ↓a89, h1, s_alt, s_alt20, s_alt2t, s_alt2f, ↓s_loopi, ↓v_pq, ↓PRE, POST, CORE, Nat.reduceDiv, Nat.reduceMod, Int.reduceLT, Int.reduceLE, Int.reduceToNat, Int.reduceAdd, ↓reduceIte, Nat.reduceEqDiff, Nat.reduceAdd, Nat.reduceMul, Nat.reduceSub, Nat.reduceLeDiff, Nat.reduceLT, reduceCtorEq, if_true, eq_self, forall_const, implies_true]
    exact hk
  · simp only [h1, decide_false, Bool.false_and] at hk
    simp (maxSteps := 2000000) -implicitDefEqProofs only [↓x88, ↓r88, ↓a89, h1, s_alt, s_alt20, s_alt2t, s_alt2f, ↓s_loopi, ↓v_pq, ↓PRE, POST, CORE, Nat.reduceDiv, Nat.reduceMod, Int.reduceLT, Int.reduceLE, Int.reduceToNat, Int.reduceAdd, ↓reduceIte, Nat.reduceEqDiff, Nat.reduceAdd, Nat.reduceMul, Nat.reduceSub, Nat.reduceLeDiff, Nat.reduceLT, reduceCtorEq, if_true, eq_self, forall_const, implies_true]
    exact hk
def c111 [Inp] : Trans := fun args m k => ∃ (l : List Ra.Rg) (n : Int) (j : Nat) (o : Bool) (p : Option Addr) (c : Nat), args = [.v (.slice p l.length c), .fn 88 [.ptr j 0]] ∧ inpL p (l.length * 2) = some (rowV gV l) ∧ l.length ≤ 100000 ∧ m[j]? = some ⟨o, [.v (.int .i64 n)]⟩ ∧ ∀ i : Int, (decide (0 ≤ i) = l.any fun r => Ra.hit r n) → k (.v (.int .i64 i)) m
theorem s88 [Inp] : GOk Try.prog [⟨88, true, c88⟩] := GOk.cons c88_ok (g0 _)
theorem c111_ok [I : Inp] : Contract Try.prog 111 true c111 := by
  refine .plain0 fn111 (G := fun J => [⟨88, true, @c88 J⟩]) (fun J => @s88 J) _ fun args m k h => ?_
  obtain ⟨l, n, j, o, p, c, rfl, hin, hmax, hj, hk⟩ := h
  refine ⟨[j], [⟨false, [.v (.int .i64 n)]⟩], [.v (.slice p l.length c), .fn 88 [.ptr 0 0]], by simp, by simp [FitM, hj, ObLe, LeL, Le], by simp, by simp [LeL, Le], by simp, fun J hJ hI => ?_⟩
  replace hin := hI _ _ _ hin
  simp (maxSteps := 2000000) -implicitDefEqProofs only [↓x111, ↓r111, s_alt, s_alt20, s_alt2t, s_alt2f, ↓s_loopi, ↓v_pq, ↓PRE, POST, CORE, Nat.reduceDiv, Nat.reduceMod, Int.reduceLT, Int.reduceLE, Int.reduceToNat, Int.reduceAdd, ↓reduceIte, Nat.reduceEqDiff, Nat.reduceAdd, Nat.reduceMul, Nat.reduceSub, Nat.reduceLeDiff, Nat.reduceLT, reduceCtorEq, if_true, eq_self, forall_const, implies_true]
  refine TXi_of (TX_count (@s88 J) l.length (fun x => [(0, .v (.slice p l.length c)), (1, .fn 88 [.ptr 0 0]), (6, .v (.slice p l.length c)), (7, .v (.int .i64 (l.length : Int))), (8, .v (.int .i64 (x : Int)))]) (fun x => [⟨false, [.v (.int .i64 n)]⟩]) (fun x => ((l.take x).any fun r => Ra.hit r n) = false) rfl ?_ ?_ ?_)
  · exact (by refine ⟨[0], by simp [NdL, NdA, oO_cells, oO_own, iL_nil], ?_, ?_, keep0 hJ⟩ <;> simp only [FitM, FitE, ObLe, LeL, Le, List.cons_append, List.nil_append] <;> (try (simp (maxSteps := 2000000) -implicitDefEqProofs only [s_alt, s_alt20, s_alt2t, s_alt2f, ↓s_loopi, ↓v_pq, ↓PRE, POST, CORE, Nat.reduceDiv, Nat.reduceMod, Int.reduceLT, Int.reduceLE, Int.reduceToNat, Int.reduceAdd, ↓reduceIte, Nat.reduceEqDiff, Nat.reduceAdd, Nat.reduceMul, Nat.reduceSub, Nat.reduceLeDiff, Nat.reduceLT, reduceCtorEq, if_true, eq_self, forall_const, implies_true])) <;> (try simp only [Sz.Le, Sz.LeL, List.getElem?_cons_zero, List.getElem?_cons_succ]) <;> (try simp))
  · intro x hx hI
    obtain ⟨r, hr⟩ : ∃ r, l[x]? = some r := ⟨_, List.getElem?_eq_getElem hx⟩
    have hp : p.isSome = true := inpL_isSome hin (by omega)
    have f : inpL (plusA p (x * 2)) 2 = some [.int .i64 r.fr, .int .i64 r.to] := inp_item gV_len hin rfl hr
    have i0 : (0 : Int) ≤ (x : Int) := by omega
    have i1 : (x : Int) < (l.length : Int) := by omega
    have w1 : IntKind.i64.wrap ((x : Int) + 1) = (x : Int) + 1 := Sz.w_64 (by omega) (by omega)
    simp (maxSteps := 2000000) -implicitDefEqProofs only [i0, i1, hp, f, w1, ↓c88, s_alt, s_alt20, s_alt2t, s_alt2f, ↓s_loopi, ↓v_pq, ↓PRE, POST, CORE, Nat.reduceDiv, Nat.reduceMod, Int.reduceLT, Int.reduceLE, Int.reduceToNat, Int.reduceAdd, ↓reduceIte, Nat.reduceEqDiff, Nat.reduceAdd, Nat.reduceMul, Nat.reduceSub, Nat.reduceLeDiff, Nat.reduceLT, reduceCtorEq, if_true, eq_self, forall_const, implies_true]
    refine ⟨r, n, 0, false, rfl, rfl, ?_⟩
    cases hh : Ra.hit r n with
    | true =>
      simp (maxSteps := 2000000) -implicitDefEqProofs only [s_alt, s_alt20, s_alt2t, s_alt2f, ↓s_loopi, ↓v_pq, ↓PRE, POST, CORE, Nat.reduceDiv, Nat.reduceMod, Int.reduceLT, Int.reduceLE, Int.reduceToNat, Int.reduceAdd, ↓reduceIte, Nat.reduceEqDiff, Nat.reduceAdd, Nat.reduceMul, Nat.reduceSub, Nat.reduceLeDiff, Nat.reduceLT, reduceCtorEq, if_true, eq_self, forall_const, implies_true]
      exact hk _ (by rw [any_good hr hh]; simp)
    | false =>
      simp (maxSteps := 2000000) -implicitDefEqProofs only [w1, s_alt, s_alt20, s_alt2t, s_alt2f, ↓s_loopi, ↓v_pq, ↓PRE, POST, CORE, Nat.reduceDiv, Nat.reduceMod, Int.reduceLT, Int.reduceLE, Int.reduceToNat, Int.reduceAdd, ↓reduceIte, Nat.reduceEqDiff, Nat.reduceAdd, Nat.reduceMul, Nat.reduceSub, Nat.reduceLeDiff, Nat.reduceLT, reduceCtorEq, if_true, eq_self, forall_const, implies_true]
      refine ⟨by rw [any_snoc _ hr, hI, hh]; rfl, ?_⟩
      exact (by refine ⟨[0], by simp [NdL, NdA, oO_cells, oO_own, iL_nil], ?_, ?_, keep0 hJ⟩ <;> simp only [FitM, FitE, ObLe, LeL, Le, List.cons_append, List.nil_append] <;> (try (simp (maxSteps := 2000000) -implicitDefEqProofs only [s_alt, s_alt20, s_alt2t, s_alt2f, ↓s_loopi, ↓v_pq, ↓PRE, POST, CORE, Nat.reduceDiv, Nat.reduceMod, Int.reduceLT, Int.reduceLE, Int.reduceToNat, Int.reduceAdd, ↓reduceIte, Nat.reduceEqDiff, Nat.reduceAdd, Nat.reduceMul, Nat.reduceSub, Nat.reduceLeDiff, Nat.reduceLT, reduceCtorEq, if_true, eq_self, forall_const, implies_true])) <;> (try simp only [Sz.Le, Sz.LeL, List.getElem?_cons_zero, List.getElem?_cons_succ]) <;> (try simp))
  · intro hI
    have j0 : ¬ (l.length : Int) < (l.length : Int) := by omega
    rw [List.take_length] at hI
    simp (maxSteps := 2000000) -implicitDefEqProofs only [j0, s_alt, s_alt20, s_alt2t, s_alt2f, ↓s_loopi, ↓v_pq, ↓PRE, POST, CORE, Nat.reduceDiv, Nat.reduceMod, Int.reduceLT, Int.reduceLE, Int.reduceToNat, Int.reduceAdd, ↓reduceIte, Nat.reduceEqDiff, Nat.reduceAdd, Nat.reduceMul, Nat.reduceSub, Nat.reduceLeDiff, Nat.reduceLT, reduceCtorEq, if_true, eq_self, forall_const, implies_true]
    exact hk _ (by rw [hI]; rfl)
def c87 [Inp] : Trans := fun args m k => ∃ (l : List Ra.Rg) (n : Int) (j : Nat) (o : Bool) (p : Option Addr) (c : Nat), args = [.v (.slice p l.length c), .fn 88 [.ptr j 0]] ∧ inpL p (l.length * 2) = some (rowV gV l) ∧ l.length ≤ 100000 ∧ m[j]? = some ⟨o, [.v (.int .i64 n)]⟩ ∧ k (.v (.bool (l.any fun r => Ra.hit r n))) m
theorem s111 [Inp] : GOk Try.prog [⟨111, true, c111⟩] := GOk.cons c111_ok (g0 _)
theorem c87_ok [I : Inp] : Contract Try.prog 87 true c87 := by
  refine .plain0 fn87 (G := fun J => [⟨111, true, @c111 J⟩]) (fun J => @s111 J) _ fun args m k h => ?_
  obtain ⟨l, n, j, o, p, c, rfl, hin, hmax, hj, hk⟩ := h
  refine ⟨[j], [⟨false, [.v (.int .i64 n)]⟩], [.v (.slice p l.length c), .fn 88 [.ptr 0 0]], by simp, by simp [FitM, hj, ObLe, LeL, Le], by simp, by simp [LeL, Le], by simp, fun J hJ hI => ?_⟩
  replace hin := hI _ _ _ hin
  simp (maxSteps := 2000000) -implicitDefEqProofs only [↓x87, ↓r87, ↓c111, s_alt, s_alt20, s_alt2t, s_alt2f, ↓s_loopi, ↓v_pq, ↓PRE, POST, CORE, Nat.reduceDiv, Nat.reduceMod, Int.reduceLT, Int.reduceLE, Int.reduceToNat, Int.reduceAdd, ↓reduceIte, Nat.reduceEqDiff, Nat.reduceAdd, Nat.reduceMul, Nat.reduceSub, Nat.reduceLeDiff, Nat.reduceLT, reduceCtorEq, if_true, eq_self, forall_const, implies_true]
  refine ⟨l, n, 0, false, p, c, rfl, hin, hmax, rfl, fun i hi => ?_⟩
  rw [hi]
  exact hk
def c54 [Inp] : Trans := fun args m k => ∃ (s : SV) (l : List Ra.Rg) (n : Int), args = [s, .v (.int .i64 n)] ∧ rdG m s = some l ∧ l.length ≤ 100000 ∧ k (.v (.bool (l.any fun r => Ra.hit r n))) m
theorem s87 [Inp] : GOk Try.prog [⟨87, true, c87⟩] := GOk.cons c87_ok (g0 _)
theorem c54_ok [I : Inp] : Contract Try.prog 54 true c54 := by
  refine .read fn54 (G := fun J => [⟨87, true, @c87 J⟩]) (fun J => @s87 J) _ fun args m k h => ?_
  obtain ⟨s, l, n, rfl, hl, hmax, hk⟩ := h
  refine ⟨by simp, fun J hJ us hus => ?_⟩
  obtain ⟨u, t1, rfl, hu1, u2, t2, rfl, hu2, rfl⟩ := hus
  obtain rfl := hu2.1 _ rfl
  obtain ⟨p, cc, rfl, hin⟩ := rdG_knows hl hu1
  rw [List.map_cons, List.map_cons, List.map_nil, of_sl, of_int]
  simp (maxSteps := 2000000) -implicitDefEqProofs only [↓x54, ↓r54, ↓c87, s_alt, s_alt20, s_alt2t, s_alt2f, ↓s_loopi, ↓v_pq, ↓PRE, POST, CORE, Nat.reduceDiv, Nat.reduceMod, Int.reduceLT, Int.reduceLE, Int.reduceToNat, Int.reduceAdd, ↓reduceIte, Nat.reduceEqDiff, Nat.reduceAdd, Nat.reduceMul, Nat.reduceSub, Nat.reduceLeDiff, Nat.reduceLT, reduceCtorEq, if_true, eq_self, forall_const, implies_true]
  exact ⟨l, n, 0, true, p, cc, rfl, hin, hmax, rfl, hk⟩
theorem rM_new {H : Mem} {S : List Ra.Rg} (h : S ≠ []) : (H ++ rM (vL gV S))[H.length]? = some ⟨true, vL gV S⟩ := by
  rw [List.getElem?_append_right (Nat.le_refl _), Nat.sub_self]
  exact rM_at gV_len (by omega) h
def one (n : Int) : Ra.Rg := ⟨min (Ra.clamp n) 1099511627775, min (Ra.clamp n) 1099511627775 + 1⟩
def c55 [Inp] : Trans := fun args m k => ∃ (s : SV) (zs : List Int), args = [s] ∧ rdI m s = some zs ∧ zs.length ≤ 1000 ∧ k (rS m.length 2 (setG (zs.map one)).length) (m ++ rM (vL gV (setG (zs.map one))))
def G55 [Inp] : List CEntry := [⟨89, true, c89⟩, ⟨29, true, c29⟩]
theorem s55 [Inp] : GOk Try.prog G55 := GOk.cons c89_ok (GOk.cons c29_ok (g0 _))
theorem c55_ok [I : Inp] : Contract Try.prog 55 true c55 := by
  refine .readF3 fn55 (G := fun J => @G55 J) (fun J => @s55 J) _ fun args m k h => ?_
  obtain ⟨s, zs, rfl, hz, hmax, hk⟩ := h
  refine ⟨by simp, fun J hJ us hus => ?_⟩
  obtain ⟨u, t1, rfl, hu1, rfl⟩ := hus
  obtain ⟨p, cc, rfl, hin⟩ := rdI_knows hz hu1
  rw [List.map_cons, List.map_nil, of_sl]
  simp (maxSteps := 2000000) -implicitDefEqProofs only [↓x55, ↓r55, s_alt, s_alt20, s_alt2t, s_alt2f, ↓s_loopi, ↓v_pq, ↓PRE, POST, CORE, Nat.reduceDiv, Nat.reduceMod, Int.reduceLT, Int.reduceLE, Int.reduceToNat, Int.reduceAdd, ↓reduceIte, Nat.reduceEqDiff, Nat.reduceAdd, Nat.reduceMul, Nat.reduceSub, Nat.reduceLeDiff, Nat.reduceLT, reduceCtorEq, if_true, eq_self, forall_const, implies_true]
  refine TXi_of (TX_count (@s55 J) zs.length (fun x => [(3, rS 0 2 x), (6, .v (.slice p zs.length cc)), (7, .v (.int .i64 (zs.length : Int))), (8, .v (.int .i64 (x : Int)))]) (fun x => rM (vL gV ((zs.take x).map one))) (fun _ => True) trivial ?_ ?_ ?_)
  · rw [List.take_zero, List.map_nil, rS_0, vL_nil, rM_0]
    exact (by refine ⟨[], by simp [NdL, NdA, oO_cells, oO_own, iL_nil], ?_, ?_, keep0 hJ⟩ <;> simp only [FitM, FitE, ObLe, LeL, Le, List.cons_append, List.nil_append] <;> (try (simp (maxSteps := 2000000) -implicitDefEqProofs only [s_alt, s_alt20, s_alt2t, s_alt2f, ↓s_loopi, ↓v_pq, ↓PRE, POST, CORE, Nat.reduceDiv, Nat.reduceMod, Int.reduceLT, Int.reduceLE, Int.reduceToNat, Int.reduceAdd, ↓reduceIte, Nat.reduceEqDiff, Nat.reduceAdd, Nat.reduceMul, Nat.reduceSub, Nat.reduceLeDiff, Nat.reduceLT, reduceCtorEq, if_true, eq_self, forall_const, implies_true])) <;> (try simp only [Sz.Le, Sz.LeL, List.getElem?_cons_zero, List.getElem?_cons_succ]) <;> (try simp))
  · intro x hx _
    obtain ⟨z, hr⟩ : ∃ z, zs[x]? = some z := ⟨_, List.getElem?_eq_getElem hx⟩
    have hp : p.isSome = true := inpL_isSome hin (by omega)
    have f : inpL (plusA p x) 1 = some [.int .i64 z] := inpI_at hin hr
    have i0 : (0 : Int) ≤ (x : Int) := by omega
    have i1 : (x : Int) < (zs.length : Int) := by omega
    have w1 : IntKind.i64.wrap ((x : Int) + 1) = (x : Int) + 1 := Sz.w_64 (by omega) (by omega)
    have hc := Ra.clamp_in z
    have hmn : (if (1099511627775 : Int) < Ra.clamp z then (1099511627775 : Int) else Ra.clamp z) = (one z).fr := by
      unfold one
      simp only
      split <;> omega
    have w2 : IntKind.i64.wrap ((one z).fr + 1) = (one z).to := by
      unfold one
      simp only
      unfold Ra.Mx at hc
      exact Sz.w_64 (by omega) (by omega)
    rw [map_snoc one hr, rS_s]
    have hV : vL gV ((zs.take x).map one ++ [one z]) = vL gV ((zs.take x).map one) ++ [.v (.int .i64 (one z).fr), .v (.int .i64 (one z).to)] := by rw [← vL_app]; rfl
    have hlt : ((zs.take x).map one).length = x := by rw [List.length_map, List.length_take]; omega
    generalize (zs.take x).map one = L at hV hlt ⊢
    cases L with
    | nil =>
      have hx0 : x = 0 := by rw [← hlt]; rfl
      rw [hV, vL_nil, List.nil_append, rM_s, show rS 0 2 x = .v (.slice none 0 0) by rw [hx0]; rfl, rM_0]
      simp (maxSteps := 2000000) -implicitDefEqProofs only [↓G55, ↓a89, i0, i1, w1, w2, hmn, hp, f, inp00, Option.map_some, List.map_nil, Nat.mul_one, s_alt, s_alt20, s_alt2t, s_alt2f, ↓s_loopi, ↓v_pq, ↓PRE, POST, CORE, Nat.reduceDiv, Nat.reduceMod, Int.reduceLT, Int.reduceLE, Int.reduceToNat, Int.reduceAdd, ↓reduceIte, Nat.reduceEqDiff, Nat.reduceAdd, Nat.reduceMul, Nat.reduceSub, Nat.reduceLeDiff, Nat.reduceLT, reduceCtorEq, if_true, eq_self, forall_const, implies_true]
      exact ⟨by unfold maxLen; omega, (by refine ⟨[1], by simp [NdL, NdA, oO_cells, oO_own, iL_nil], ?_, ?_, keep0 hJ⟩ <;> simp only [FitM, FitE, ObLe, LeL, Le, List.cons_append, List.nil_append] <;> (try (simp (maxSteps := 2000000) -implicitDefEqProofs only [List.length_nil, hx0, Nat.zero_add, s_alt, s_alt20, s_alt2t, s_alt2f, ↓s_loopi, ↓v_pq, ↓PRE, POST, CORE, Nat.reduceDiv, Nat.reduceMod, Int.reduceLT, Int.reduceLE, Int.reduceToNat, Int.reduceAdd, ↓reduceIte, Nat.reduceEqDiff, Nat.reduceAdd, Nat.reduceMul, Nat.reduceSub, Nat.reduceLeDiff, Nat.reduceLT, reduceCtorEq, if_true, eq_self, forall_const, implies_true])) <;> (try simp only [Sz.Le, Sz.LeL, List.getElem?_cons_zero, List.getElem?_cons_succ]) <;> (try simp))⟩
    | cons e L =>
      have hel : (vL gV (e :: L)).length = x * 2 := by rw [g_len, hlt]
      have hle : ∀ g, LeL g (vL gV (e :: L) ++ [.v (.int .i64 (one z).fr), .v (.int .i64 (one z).to)]) (vL gV (e :: L) ++ [.v (.int .i64 (one z).fr), .v (.int .i64 (one z).to)]) = True := fun g => by rw [← hV]; exact vL_le
      have hne : vL gV (e :: L) ≠ [] := by simp [vL, rowV, gV]
      have hx0 : x ≠ 0 := by rw [← hlt]; simp
      rw [hV, rS_ne hx0]
      clear hV
      generalize vL gV (e :: L) = C at hel hle hne ⊢
      have h1 : rM C = [⟨true, C⟩] := if_neg hne
      have h2 : ∀ X, rM (C ++ X) = [⟨true, C ++ X⟩] := fun X => if_neg (by simp [hne])
      have h3 : C.take (x * 2) = C := List.take_of_length_le (by omega)
      have h4 : x + 1 ≤ maxLen := by unfold maxLen; omega
      have h5 : (x + 1) * 16 ≤ 140737488355328 := by omega
      rw [h1, h2]
      simp (maxSteps := 2000000) -implicitDefEqProofs only [↓G55, ↓a89, i0, i1, w1, w2, hmn, hp, f, inp00, Option.map_some, List.map_nil, Nat.mul_one, hel, h3, h4, h5, Nat.le_refl, s_alt, s_alt20, s_alt2t, s_alt2f, ↓s_loopi, ↓v_pq, ↓PRE, POST, CORE, Nat.reduceDiv, Nat.reduceMod, Int.reduceLT, Int.reduceLE, Int.reduceToNat, Int.reduceAdd, ↓reduceIte, Nat.reduceEqDiff, Nat.reduceAdd, Nat.reduceMul, Nat.reduceSub, Nat.reduceLeDiff, Nat.reduceLT, reduceCtorEq, if_true, eq_self, forall_const, implies_true]
      exact (by refine ⟨[2], by simp [NdL, NdA, oO_cells, oO_own, iL_nil], ?_, ?_, keep0 hJ⟩ <;> simp only [FitM, FitE, ObLe, LeL, Le, List.cons_append, List.nil_append] <;> (try (simp (maxSteps := 2000000) -implicitDefEqProofs only [hle, s_alt, s_alt20, s_alt2t, s_alt2f, ↓s_loopi, ↓v_pq, ↓PRE, POST, CORE, Nat.reduceDiv, Nat.reduceMod, Int.reduceLT, Int.reduceLE, Int.reduceToNat, Int.reduceAdd, ↓reduceIte, Nat.reduceEqDiff, Nat.reduceAdd, Nat.reduceMul, Nat.reduceSub, Nat.reduceLeDiff, Nat.reduceLT, reduceCtorEq, if_true, eq_self, forall_const, implies_true])) <;> (try simp only [Sz.Le, Sz.LeL, List.getElem?_cons_zero, List.getElem?_cons_succ]) <;> (try simp))
  · intro _
    have j0 : ¬ (zs.length : Int) < (zs.length : Int) := by omega
    rw [List.take_length]
    have hlm : zs.length = (zs.map one).length := by rw [List.length_map]
    generalize zs.map one = L at hlm hk ⊢
    simp (maxSteps := 2000000) -implicitDefEqProofs only [↓G55, j0, ↓c29, s_alt, s_alt20, s_alt2t, s_alt2f, ↓s_loopi, ↓v_pq, ↓PRE, POST, CORE, Nat.reduceDiv, Nat.reduceMod, Int.reduceLT, Int.reduceLE, Int.reduceToNat, Int.reduceAdd, ↓reduceIte, Nat.reduceEqDiff, Nat.reduceAdd, Nat.reduceMul, Nat.reduceSub, Nat.reduceLeDiff, Nat.reduceLT, reduceCtorEq, if_true, eq_self, forall_const, implies_true]
    refine ⟨_, L, rfl, by rw [hlm]; exact rdG_r fun h => ⟨true, rM_at gV_len (by omega) h⟩, by omega, ?_⟩
    exact fin_row gV_len (by omega) _ _ _ (rM (vL gV L)).length (fun h => by rw [h]; rfl) (fun h => ⟨rS_ne (fun e => h (List.length_eq_zero_iff.1 e)), rM_new h⟩) hk
end Rc
end Go.Proofs.Ytcejgadbpahbmaa
end
section
namespace Go.Proofs.Ytcejgadbpahbmaa
open Go.RowKit Sz
set_option maxHeartbeats 16000000
set_option maxRecDepth 20000
namespace Rc
def RdE [Inp] (m : Mem) (s : SV) (L : List Ra.Rg) : Prop := ∀ t, rdG (m ++ t) s = some L
class KBox where
  q : SV → Mem → Prop
def useI (tr : Trans) (args : List SV) (m : Mem) [b : KBox] : Prop := tr args m b.q
theorem useI_of {tr : Trans} {args : List SV} {m : Mem} {K : SV → Mem → Prop} (h : tr args m K) : @useI tr args m ⟨K⟩ := h
theorem v_kq {K : SV → Mem → Prop} {s : SV} {m : Mem} : @KBox.q ⟨K⟩ s m = K s m := Eq.trans rfl rfl
section
variable [Inp] {l : List SV} {m : Mem} {K : SV → Mem → Prop} {T : Bool → Bool → Bool}
theorem iMix : cMix T l m K = @useI (cMix T) l m ⟨K⟩ := Eq.trans rfl rfl
theorem i22 : c22 l m K = @useI c22 l m ⟨K⟩ := Eq.trans rfl rfl
theorem i23 : c23 l m K = @useI c23 l m ⟨K⟩ := Eq.trans rfl rfl
theorem i24 : c24 l m K = @useI c24 l m ⟨K⟩ := Eq.trans rfl rfl
theorem i25 : c25 l m K = @useI c25 l m ⟨K⟩ := Eq.trans rfl rfl
theorem i29 : c29 l m K = @useI c29 l m ⟨K⟩ := Eq.trans rfl rfl
theorem i54 : c54 l m K = @useI c54 l m ⟨K⟩ := Eq.trans rfl rfl
theorem i55 : c55 l m K = @useI c55 l m ⟨K⟩ := Eq.trans rfl rfl
end
section
variable [Inp] {m : Mem} {s s1 s2 : SV} {L a b : List Ra.Rg} {K : SV → Mem → Prop} {T : Bool → Bool → Bool}
theorem RdE.get (h : RdE m s L) : rdG m s = some L := by have := h []; rwa [List.append_nil] at this
theorem RdE.ext (h : RdE m s L) (t : Mem) : RdE (m ++ t) s L := fun u => by rw [List.append_assoc]; exact h _
theorem RdE_v {p : Option Addr} {n c : Nat} (h : inpL p (n * 2) = some (rowV gV L)) : RdE m (.v (.slice p n c)) L := fun t => rdG_v h
theorem RdE_new : RdE (m ++ rM (vL gV L)) (rS m.length 2 L.length) L := fun t => by
  refine rdG_r fun h => ⟨true, ?_⟩
  rw [List.getElem?_append_left (by rw [List.length_append, rM_ne (vL_ne gV_len (by omega) h)]; simp)]
  exact rM_new h
omit [Inp] in
theorem at_app {i : Nat} {o : SObj} {t : Mem} (h : m[i]? = some o) : (m ++ t)[i]? = some o := by
  rw [List.getElem?_append_left (List.getElem?_eq_some_iff.1 h).1]
  exact h
theorem useMix (h1 : RdE m s1 a) (h2 : RdE m s2 b) (ha : a.length ≤ 10000) (hb : b.length ≤ 10000) (hk : ∀ j m', RdE m' (rS j 2 (Ra.swp T a b).length) (Ra.swp T a b) → (Ra.swp T a b ≠ [] → m'[j]? = some ⟨true, vL gV (Ra.swp T a b)⟩) → (∀ s L, RdE m s L → RdE m' s L) → (∀ (i : Nat) o, m[i]? = some o → m'[i]? = some o) → K (rS j 2 (Ra.swp T a b).length) m') : cMix T [s1, s2] m K :=
  ⟨s1, s2, a, b, rfl, h1.get, h2.get, ha, hb, hk _ _ RdE_new (fun h => rM_new h) (fun s L h => h.ext _) (fun i o h => at_app h)⟩
theorem useSet (h1 : RdE m s1 a) (ha : a.length ≤ 10000) (hk : ∀ j m', RdE m' (rS j 2 (setG a).length) (setG a) → (setG a ≠ [] → m'[j]? = some ⟨true, vL gV (setG a)⟩) → (∀ s L, RdE m s L → RdE m' s L) → (∀ (i : Nat) o, m[i]? = some o → m'[i]? = some o) → K (rS j 2 (setG a).length) m') : c29 [s1] m K :=
  ⟨s1, a, rfl, h1.get, ha, hk _ _ RdE_new (fun h => rM_new h) (fun s L h => h.ext _) (fun i o h => at_app h)⟩
theorem useRows (h1 : RdE m s1 a) (ha : a.length ≤ 10000) (hk : ∀ j m', RdE m' (rS j 2 a.length) a → (a ≠ [] → m'[j]? = some ⟨true, vL gV (a)⟩) → (∀ s L, RdE m s L → RdE m' s L) → (∀ (i : Nat) o, m[i]? = some o → m'[i]? = some o) → K (rS j 2 a.length) m') : c22 [s1] m K :=
  ⟨s1, a, rfl, h1.get, by omega, hk _ _ RdE_new (fun h => rM_new h) (fun s L h => h.ext _) (fun i o h => at_app h)⟩
theorem useSame (h1 : RdE m s1 a) (h2 : RdE m s2 b) (ha : a.length ≤ 10000) (hb : b.length ≤ 10000) (hk : K (.v (.bool (a == b))) m) : c23 [s1, s2] m K :=
  ⟨s1, s2, a, b, rfl, h1.get, h2.get, by omega, by omega, hk⟩
theorem useCount (h1 : RdE m s1 a) (ha : a.length ≤ 10000) (hk : K (.v (.int .i64 (Ra.lenS (setG a)))) m) : c24 [s1] m K :=
  ⟨s1, a, rfl, h1.get, ha, hk⟩
theorem useIs (h1 : RdE m s1 a) (ha : a.length ≤ 10000) (hk : K (.v (.bool (Ra.isF none a))) m) : c25 [s1] m K :=
  ⟨s1, a, rfl, h1.get, by omega, hk⟩
theorem useHas {n : Int} (h1 : RdE m s1 a) (ha : a.length ≤ 10000) (hk : K (.v (.bool (a.any fun r => Ra.hit r n))) m) : c54 [s1, .v (.int .i64 n)] m K :=
  ⟨s1, a, n, rfl, h1.get, by omega, hk⟩
end
-- almshouse/almshouselaw51.fixed (0 parameters)
def x20 : XC := (.seq (.tree (.seq ⟨some 0, none, (.ofA (.mv (.cst (.v (.bool false)))))⟩
 .done))
 (.seq (.tree (.seq ⟨some 3, none, (.build [(.v (.int .i64 0)), (.v (.int .i64 0))] [(0, 1, (.cst (.v (.int .i64 3)))), (1, 1, (.cst (.v (.int .i64 5))))])⟩
 (.seq ⟨some 4, none, (.build [(.v (.int .i64 0)), (.v (.int .i64 0))] [(0, 1, (.cst (.v (.int .i64 1)))), (1, 1, (.cst (.v (.int .i64 3))))])⟩
 (.seq ⟨some 5, none, (.build [(.v (.int .i64 0)), (.v (.int .i64 0))] [(0, 1, (.cst (.v (.int .i64 9)))), (1, 1, (.cst (.v (.int .i64 2))))])⟩
 (.seq ⟨some 6, none, (.buildSl 2 3 [(.v (.int .i64 0)), (.v (.int .i64 0)), (.v (.int .i64 0)), (.v (.int .i64 0)), (.v (.int .i64 0)), (.v (.int .i64 0))] [(0, 2, (.tmp 3)), (2, 2, (.tmp 4)), (4, 2, (.tmp 5))])⟩
 (.seq ⟨some 7, none, (.call (.cst (.fn 29 [])) [(.tmp 6)])⟩
 (.seq ⟨some 1, none, (.ofA (.mv (.tmp 7)))⟩
 .done)))))))
 (.seq (.tree (.seq ⟨some 8, none, (.ofA (.mv (.tmp 1)))⟩
 (.seq ⟨some 9, none, (.build [(.v (.int .i64 0)), (.v (.int .i64 0))] [(0, 1, (.cst (.v (.int .i64 2)))), (1, 1, (.cst (.v (.int .i64 4))))])⟩
 (.seq ⟨some 10, none, (.buildSl 2 1 [(.v (.int .i64 0)), (.v (.int .i64 0))] [(0, 2, (.tmp 9))])⟩
 (.seq ⟨some 11, none, (.call (.cst (.fn 27 [])) [(.tmp 8), (.tmp 10)])⟩
 (.seq ⟨some 2, none, (.ofA (.mv (.tmp 11)))⟩
 .done))))))
 (.seq (.tree (.seq ⟨some 12, none, (.ofA (.mv (.tmp 1)))⟩
 (.seq ⟨some 13, none, (.ofA (.len (.tmp 12)))⟩
 (.seq ⟨some 14, none, (.ofA (.bin .eql (.tmp 13) (.cst (.v (.int .i64 1)))))⟩
 (.seq ⟨some 15, none, (.ofA (.mv (.tmp 14)))⟩
 (.seq ⟨some 16, some (15, true), (.ofA (.mv (.tmp 1)))⟩
 (.seq ⟨some 17, some (15, true), (.ofA (.isl 2 (.tmp 16) (.cst (.v (.int .i64 0)))))⟩
 (.seq ⟨some 18, some (15, true), (.ofA (.load (some 2) (.tmp 17)))⟩
 (.seq ⟨some 19, some (15, true), (.build [(.v (.int .i64 0)), (.v (.int .i64 0))] [(0, 1, (.cst (.v (.int .i64 1)))), (1, 1, (.cst (.v (.int .i64 5))))])⟩
 (.seq ⟨some 20, some (15, true), (.ofA (.eqs false [.int, .int] (.tmp 18) (.tmp 19)))⟩
 (.seq ⟨some 21, none, (.ofA (.pick (.tmp 15) (.tmp 20) (.cst (.v (.bool false)))))⟩
 (.seq ⟨some 22, none, (.ofA (.mv (.tmp 21)))⟩
 (.seq ⟨some 23, some (22, true), (.ofA (.mv (.tmp 2)))⟩
 (.seq ⟨some 24, some (22, true), (.ofA (.len (.tmp 23)))⟩
 (.seq ⟨some 25, some (22, true), (.ofA (.bin .eql (.tmp 24) (.cst (.v (.int .i64 2)))))⟩
 (.seq ⟨some 26, none, (.ofA (.pick (.tmp 22) (.tmp 25) (.cst (.v (.bool false)))))⟩
 (.seq ⟨some 27, none, (.ofA (.mv (.tmp 26)))⟩
 (.seq ⟨some 28, some (27, true), (.ofA (.mv (.tmp 2)))⟩
 (.seq ⟨some 29, some (27, true), (.ofA (.isl 2 (.tmp 28) (.cst (.v (.int .i64 1)))))⟩
 (.seq ⟨some 30, some (27, true), (.ofA (.load (some 2) (.tmp 29)))⟩
 (.seq ⟨some 31, some (27, true), (.build [(.v (.int .i64 0)), (.v (.int .i64 0))] [(0, 1, (.cst (.v (.int .i64 4)))), (1, 1, (.cst (.v (.int .i64 5))))])⟩
 (.seq ⟨some 32, some (27, true), (.ofA (.eqs false [.int, .int] (.tmp 30) (.tmp 31)))⟩
 (.seq ⟨some 33, none, (.ofA (.pick (.tmp 27) (.tmp 32) (.cst (.v (.bool false)))))⟩
 (.seq ⟨some 34, none, (.ofA (.mv (.tmp 33)))⟩
 (.seq ⟨some 35, some (34, true), (.ofA (.mv (.tmp 2)))⟩
 (.seq ⟨some 36, some (34, true), (.call (.cst (.fn 24 [])) [(.tmp 35)])⟩
 (.seq ⟨some 37, some (34, true), (.ofA (.bin .eql (.tmp 36) (.cst (.v (.int .i64 2)))))⟩
 (.seq ⟨some 38, none, (.ofA (.pick (.tmp 34) (.tmp 37) (.cst (.v (.bool false)))))⟩
 (.seq ⟨some 39, none, (.ofA (.mv (.tmp 38)))⟩
 (.seq ⟨some 40, some (39, true), (.ofA (.mv (.tmp 2)))⟩
 (.seq ⟨some 41, some (39, true), (.call (.cst (.fn 25 [])) [(.tmp 40)])⟩
 (.seq ⟨some 42, none, (.ofA (.pick (.tmp 39) (.tmp 41) (.cst (.v (.bool false)))))⟩
 (.seq ⟨some 43, none, (.ofA (.mv (.tmp 42)))⟩
 (.seq ⟨some 44, some (43, true), (.ofA (.mv (.tmp 2)))⟩
 (.seq ⟨some 45, some (43, true), (.call (.cst (.fn 54 [])) [(.tmp 44), (.cst (.v (.int .i64 4)))])⟩
 (.seq ⟨some 46, none, (.ofA (.pick (.tmp 43) (.tmp 45) (.cst (.v (.bool false)))))⟩
 (.seq ⟨some 47, none, (.ofA (.mv (.tmp 46)))⟩
 (.seq ⟨some 48, some (47, true), (.ofA (.mv (.tmp 2)))⟩
 (.seq ⟨some 49, some (47, true), (.call (.cst (.fn 54 [])) [(.tmp 48), (.cst (.v (.int .i64 3)))])⟩
 (.seq ⟨some 50, some (47, true), (.ofA (.un .not (.tmp 49)))⟩
 (.seq ⟨some 51, none, (.ofA (.pick (.tmp 47) (.tmp 50) (.cst (.v (.bool false)))))⟩
 (.seq ⟨some 52, none, (.ofA (.mv (.tmp 51)))⟩
 (.seq ⟨some 53, some (52, true), (.buildSl 1 3 [(.v (.int .i64 0)), (.v (.int .i64 0)), (.v (.int .i64 0))] [(0, 1, (.cst (.v (.int .i64 7)))), (1, 1, (.cst (.v (.int .i64 8)))), (2, 1, (.cst (.v (.int .i64 2))))])⟩
 (.seq ⟨some 54, some (52, true), (.call (.cst (.fn 55 [])) [(.tmp 53)])⟩
 (.seq ⟨some 55, some (52, true), (.ofA (.len (.tmp 54)))⟩
 (.seq ⟨some 56, some (52, true), (.ofA (.bin .eql (.tmp 55) (.cst (.v (.int .i64 2)))))⟩
 (.seq ⟨some 57, none, (.ofA (.pick (.tmp 52) (.tmp 56) (.cst (.v (.bool false)))))⟩
 (.seq ⟨some 0, none, (.ofA (.mv (.tmp 57)))⟩
 .done))))))))))))))))))))))))))))))))))))))))))))))))
 .ret))))
def r20 : List XR := [.tmp 0]
theorem fn20 : FnX Try.prog 20 [92] 58 x20 r20 := ⟨_, Try.func20, by kernel_rfl, by kernel_rfl, by kernel_rfl, by kernel_rfl⟩
-- almshouse/almshouselaw51.RangesLaws (2 parameters)
def x6 : XC := (.seq (.tree (.seq ⟨some 4, none, (.ofA (.mv (.cst (.v (.bool false)))))⟩
 .done))
 (.seq (.seq (.tree (.seq ⟨some 10, none, (.call (.cst (.fn 20 [])) [])⟩
 (.seq ⟨some 11, none, (.ofA (.un .not (.tmp 10)))⟩
 .done)))
 (.cond (.tmp 11)
 (.seq (.tree (.seq ⟨some 4, none, (.ofA (.mv (.cst (.v (.bool false)))))⟩
 .done))
 .ret)
 .skip))
 (.seq (.seq (.tree (.seq ⟨some 12, none, (.ofA (.mv (.tmp 0)))⟩
 (.seq ⟨some 13, none, (.ofA (.len (.tmp 12)))⟩
 (.seq ⟨some 14, none, (.ofA (.bin .gtr (.tmp 13) (.cst (.v (.int .i64 20)))))⟩
 (.seq ⟨some 15, none, (.ofA (.mv (.tmp 14)))⟩
 (.seq ⟨some 16, some (15, false), (.ofA (.mv (.tmp 1)))⟩
 (.seq ⟨some 17, some (15, false), (.ofA (.len (.tmp 16)))⟩
 (.seq ⟨some 18, some (15, false), (.ofA (.bin .gtr (.tmp 17) (.cst (.v (.int .i64 20)))))⟩
 (.seq ⟨some 19, none, (.ofA (.pick (.tmp 15) (.cst (.v (.bool true))) (.tmp 18)))⟩
 .done)))))))))
 (.cond (.tmp 19)
 (.seq (.tree (.seq ⟨some 4, none, (.ofA (.mv (.cst (.v (.bool true)))))⟩
 .done))
 .ret)
 .skip))
 (.seq (.tree (.seq ⟨some 20, none, (.ofA (.mv (.tmp 0)))⟩
 (.seq ⟨some 21, none, (.ofA (.mv (.tmp 1)))⟩
 (.seq ⟨some 22, none, (.call (.cst (.fn 26 [])) [(.tmp 20), (.tmp 21)])⟩
 (.seq ⟨some 23, none, (.ofA (.mv (.tmp 0)))⟩
 (.seq ⟨some 24, none, (.ofA (.mv (.tmp 1)))⟩
 (.seq ⟨some 25, none, (.call (.cst (.fn 27 [])) [(.tmp 23), (.tmp 24)])⟩
 (.seq ⟨some 26, none, (.ofA (.mv (.tmp 1)))⟩
 (.seq ⟨some 27, none, (.ofA (.mv (.tmp 0)))⟩
 (.seq ⟨some 28, none, (.call (.cst (.fn 27 [])) [(.tmp 26), (.tmp 27)])⟩
 (.seq ⟨some 29, none, (.ofA (.mv (.tmp 0)))⟩
 (.seq ⟨some 30, none, (.ofA (.mv (.tmp 1)))⟩
 (.seq ⟨some 31, none, (.call (.cst (.fn 28 [])) [(.tmp 29), (.tmp 30)])⟩
 (.seq ⟨some 5, none, (.ofA (.mv (.tmp 22)))⟩
 (.seq ⟨some 6, none, (.ofA (.mv (.tmp 25)))⟩
 (.seq ⟨some 7, none, (.ofA (.mv (.tmp 28)))⟩
 (.seq ⟨some 8, none, (.ofA (.mv (.tmp 31)))⟩
 .done)))))))))))))))))
 (.seq (.tree (.seq ⟨some 32, none, (.ofA (.mv (.tmp 6)))⟩
 (.seq ⟨some 33, none, (.ofA (.mv (.tmp 7)))⟩
 (.seq ⟨some 34, none, (.call (.cst (.fn 26 [])) [(.tmp 32), (.tmp 33)])⟩
 (.seq ⟨some 35, none, (.ofA (.mv (.tmp 8)))⟩
 (.seq ⟨some 36, none, (.call (.cst (.fn 26 [])) [(.tmp 34), (.tmp 35)])⟩
 (.seq ⟨some 9, none, (.ofA (.mv (.tmp 36)))⟩
 .done)))))))
 (.seq (.tree (.seq ⟨some 37, none, (.ofA (.mv (.tmp 9)))⟩
 (.seq ⟨some 38, none, (.ofA (.mv (.tmp 5)))⟩
 (.seq ⟨some 39, none, (.call (.cst (.fn 22 [])) [(.tmp 38)])⟩
 (.seq ⟨some 40, none, (.call (.cst (.fn 23 [])) [(.tmp 37), (.tmp 39)])⟩
 (.seq ⟨some 41, none, (.ofA (.mv (.tmp 40)))⟩
 (.seq ⟨some 42, some (41, true), (.ofA (.mv (.tmp 5)))⟩
 (.seq ⟨some 43, some (41, true), (.call (.cst (.fn 24 [])) [(.tmp 42)])⟩
 (.seq ⟨some 44, some (41, true), (.ofA (.mv (.tmp 6)))⟩
 (.seq ⟨some 45, some (41, true), (.call (.cst (.fn 24 [])) [(.tmp 44)])⟩
 (.seq ⟨some 46, some (41, true), (.ofA (.mv (.tmp 7)))⟩
 (.seq ⟨some 47, some (41, true), (.call (.cst (.fn 24 [])) [(.tmp 46)])⟩
 (.seq ⟨some 48, some (41, true), (.ofA (.bin .add (.tmp 45) (.tmp 47)))⟩
 (.seq ⟨some 49, some (41, true), (.ofA (.mv (.tmp 8)))⟩
 (.seq ⟨some 50, some (41, true), (.call (.cst (.fn 24 [])) [(.tmp 49)])⟩
 (.seq ⟨some 51, some (41, true), (.ofA (.bin .add (.tmp 48) (.tmp 50)))⟩
 (.seq ⟨some 52, some (41, true), (.ofA (.bin .eql (.tmp 43) (.tmp 51)))⟩
 (.seq ⟨some 53, none, (.ofA (.pick (.tmp 41) (.tmp 52) (.cst (.v (.bool false)))))⟩
 (.seq ⟨some 54, none, (.ofA (.mv (.tmp 53)))⟩
 (.seq ⟨some 55, some (54, true), (.ofA (.mv (.tmp 6)))⟩
 (.seq ⟨some 56, some (54, true), (.ofA (.mv (.tmp 1)))⟩
 (.seq ⟨some 57, some (54, true), (.call (.cst (.fn 28 [])) [(.tmp 55), (.tmp 56)])⟩
 (.seq ⟨some 58, some (54, true), (.ofA (.len (.tmp 57)))⟩
 (.seq ⟨some 59, some (54, true), (.ofA (.bin .eql (.tmp 58) (.cst (.v (.int .i64 0)))))⟩
 (.seq ⟨some 60, none, (.ofA (.pick (.tmp 54) (.tmp 59) (.cst (.v (.bool false)))))⟩
 (.seq ⟨some 61, none, (.ofA (.mv (.tmp 60)))⟩
 (.seq ⟨some 62, some (61, true), (.ofA (.mv (.tmp 5)))⟩
 (.seq ⟨some 63, some (61, true), (.call (.cst (.fn 29 [])) [(.tmp 62)])⟩
 (.seq ⟨some 64, some (61, true), (.ofA (.mv (.tmp 5)))⟩
 (.seq ⟨some 65, some (61, true), (.call (.cst (.fn 22 [])) [(.tmp 64)])⟩
 (.seq ⟨some 66, some (61, true), (.call (.cst (.fn 23 [])) [(.tmp 63), (.tmp 65)])⟩
 (.seq ⟨some 67, none, (.ofA (.pick (.tmp 61) (.tmp 66) (.cst (.v (.bool false)))))⟩
 (.seq ⟨some 4, none, (.ofA (.mv (.tmp 67)))⟩
 .done)))))))))))))))))))))))))))))))))
 .ret))))))
def r6 : List XR := [.tmp 4]
theorem fn6 : FnX Try.prog 6 [92] 68 x6 r6 := ⟨_, Try.func6, by kernel_rfl, by kernel_rfl, by kernel_rfl, by kernel_rfl⟩
def c20 [Inp] : Trans := fun args m k => args = [] ∧ k (.v (.bool true)) m
def G20 [Inp] : List CEntry := [⟨29, true, c29⟩, ⟨27, true, cMix Ra.tBut⟩, ⟨24, true, c24⟩, ⟨25, true, c25⟩, ⟨54, true, c54⟩, ⟨55, true, c55⟩]
theorem s20 [Inp] : GOk Try.prog G20 := GOk.cons c29_ok (GOk.cons c27_ok (GOk.cons c24_ok (GOk.cons c25_ok (GOk.cons c54_ok (GOk.cons c55_ok (g0 _))))))
theorem v1 : setG [⟨3, 5⟩, ⟨1, 3⟩, ⟨9, 2⟩] = [⟨1, 5⟩] := by decide
theorem v2 : Ra.swp Ra.tBut [⟨1, 5⟩] [⟨2, 4⟩] = [⟨1, 2⟩, ⟨4, 5⟩] := by decide
theorem v3 : Ra.lenS (setG [⟨1, 2⟩, ⟨4, 5⟩]) = 2 := by decide
theorem v4 : Ra.isF none [⟨1, 2⟩, ⟨4, 5⟩] = true := by decide
theorem v5 : ([⟨1, 2⟩, ⟨4, 5⟩] : List Ra.Rg).any (fun r => Ra.hit r 4) = true := by decide
theorem v6 : ([⟨1, 2⟩, ⟨4, 5⟩] : List Ra.Rg).any (fun r => Ra.hit r 3) = false := by decide
theorem v7 : setG ([7, 8, 2].map one) = [⟨2, 3⟩, ⟨7, 9⟩] := by decide
theorem c20_ok [I : Inp] : Contract Try.prog 20 true c20 := by
  refine .plainArgs fn20 s20 _ fun args m k h => ?_
  obtain ⟨rfl, hk⟩ := h
  refine ⟨rfl, by simp, ?_⟩
  simp (maxSteps := 2000000) -implicitDefEqProofs only [↓x20, ↓r20, ↓G20, ↓i29, ↓iMix, ↓i24, ↓i25, ↓i54, ↓i55, s_alt, s_alt20, s_alt2t, s_alt2f, ↓s_loopi, ↓v_pq, ↓PRE, POST, CORE, Nat.reduceDiv, Nat.reduceMod, Int.reduceLT, Int.reduceLE, Int.reduceToNat, Int.reduceAdd, ↓reduceIte, Nat.reduceEqDiff, Nat.reduceAdd, Nat.reduceMul, Nat.reduceSub, Nat.reduceLeDiff, Nat.reduceLT, reduceCtorEq, if_true, eq_self, forall_const, implies_true]
  refine useI_of (useSet (a := [⟨3, 5⟩, ⟨1, 3⟩, ⟨9, 2⟩]) (fun t => rfl) (by simp) fun j1 m1 h1 g1 _ _ => ?_)
  rw [v1] at h1 g1 ⊢
  replace g1 := g1 (by simp)
  rw [List.length_cons, List.length_nil, rS_s] at h1 ⊢
  simp (maxSteps := 2000000) -implicitDefEqProofs only [↓v_kq, ↓G20, ↓i29, ↓iMix, ↓i24, ↓i25, ↓i54, ↓i55, s_alt, s_alt20, s_alt2t, s_alt2f, ↓s_loopi, ↓v_pq, ↓PRE, POST, CORE, Nat.reduceDiv, Nat.reduceMod, Int.reduceLT, Int.reduceLE, Int.reduceToNat, Int.reduceAdd, ↓reduceIte, Nat.reduceEqDiff, Nat.reduceAdd, Nat.reduceMul, Nat.reduceSub, Nat.reduceLeDiff, Nat.reduceLT, reduceCtorEq, if_true, eq_self, forall_const, implies_true]
  have h2 := @RdE_new _ m1 [⟨2, 4⟩]
  have hl : vL gV [⟨2, 4⟩] = [.v (.int .i64 2), .v (.int .i64 4)] := rfl
  rw [hl, rM_s, List.length_cons, List.length_nil, rS_s] at h2
  refine useI_of (useMix (h1.ext _) h2 (by simp) (by simp) fun j2 m2 h3 g3 k3 k4 => ?_)
  rw [v2] at h3 g3 ⊢
  replace g3 := g3 (by simp)
  replace g1 := k4 _ _ (at_app g1)
  have e1 : vL gV [⟨1, 5⟩] = [.v (.int .i64 1), .v (.int .i64 5)] := rfl
  have e3 : vL gV [⟨1, 2⟩, ⟨4, 5⟩] = [.v (.int .i64 1), .v (.int .i64 2), .v (.int .i64 4), .v (.int .i64 5)] := rfl
  rw [e1] at g1
  rw [e3] at g3
  rw [List.length_cons, List.length_cons, List.length_nil, rS_s] at h3 ⊢
  simp (maxSteps := 2000000) -implicitDefEqProofs only [↓v_kq, ↓G20, ↓i29, ↓iMix, ↓i24, ↓i25, ↓i54, ↓i55, g1, g3, s_alt, s_alt20, s_alt2t, s_alt2f, ↓s_loopi, ↓v_pq, ↓PRE, POST, CORE, Nat.reduceDiv, Nat.reduceMod, Int.reduceLT, Int.reduceLE, Int.reduceToNat, Int.reduceAdd, ↓reduceIte, Nat.reduceEqDiff, Nat.reduceAdd, Nat.reduceMul, Nat.reduceSub, Nat.reduceLeDiff, Nat.reduceLT, reduceCtorEq, if_true, eq_self, forall_const, implies_true]
  simp only [beq_self_eq_true, Bool.and_self, if_true]
  refine useI_of (useCount h3 (by simp) ?_)
  rw [v3]
  simp (maxSteps := 2000000) -implicitDefEqProofs only [↓v_kq, ↓G20, ↓i29, ↓iMix, ↓i24, ↓i25, ↓i54, ↓i55, s_alt, s_alt20, s_alt2t, s_alt2f, ↓s_loopi, ↓v_pq, ↓PRE, POST, CORE, Nat.reduceDiv, Nat.reduceMod, Int.reduceLT, Int.reduceLE, Int.reduceToNat, Int.reduceAdd, ↓reduceIte, Nat.reduceEqDiff, Nat.reduceAdd, Nat.reduceMul, Nat.reduceSub, Nat.reduceLeDiff, Nat.reduceLT, reduceCtorEq, if_true, eq_self, forall_const, implies_true]
  simp only [beq_self_eq_true, Bool.and_self, if_true]
  refine useI_of (useIs h3 (by simp) ?_)
  rw [v4]
  simp (maxSteps := 2000000) -implicitDefEqProofs only [↓v_kq, ↓G20, ↓i29, ↓iMix, ↓i24, ↓i25, ↓i54, ↓i55, s_alt, s_alt20, s_alt2t, s_alt2f, ↓s_loopi, ↓v_pq, ↓PRE, POST, CORE, Nat.reduceDiv, Nat.reduceMod, Int.reduceLT, Int.reduceLE, Int.reduceToNat, Int.reduceAdd, ↓reduceIte, Nat.reduceEqDiff, Nat.reduceAdd, Nat.reduceMul, Nat.reduceSub, Nat.reduceLeDiff, Nat.reduceLT, reduceCtorEq, if_true, eq_self, forall_const, implies_true]
  refine useI_of (useHas h3 (by simp) ?_)
  rw [v5]
  simp (maxSteps := 2000000) -implicitDefEqProofs only [↓v_kq, ↓G20, ↓i29, ↓iMix, ↓i24, ↓i25, ↓i54, ↓i55, s_alt, s_alt20, s_alt2t, s_alt2f, ↓s_loopi, ↓v_pq, ↓PRE, POST, CORE, Nat.reduceDiv, Nat.reduceMod, Int.reduceLT, Int.reduceLE, Int.reduceToNat, Int.reduceAdd, ↓reduceIte, Nat.reduceEqDiff, Nat.reduceAdd, Nat.reduceMul, Nat.reduceSub, Nat.reduceLeDiff, Nat.reduceLT, reduceCtorEq, if_true, eq_self, forall_const, implies_true]
  refine useI_of (useHas h3 (by simp) ?_)
  rw [v6]
  simp (maxSteps := 2000000) -implicitDefEqProofs only [↓v_kq, ↓G20, ↓i29, ↓iMix, ↓i24, ↓i25, ↓i54, ↓i55, s_alt, s_alt20, s_alt2t, s_alt2f, ↓s_loopi, ↓v_pq, ↓PRE, POST, CORE, Nat.reduceDiv, Nat.reduceMod, Int.reduceLT, Int.reduceLE, Int.reduceToNat, Int.reduceAdd, ↓reduceIte, Nat.reduceEqDiff, Nat.reduceAdd, Nat.reduceMul, Nat.reduceSub, Nat.reduceLeDiff, Nat.reduceLT, reduceCtorEq, if_true, eq_self, forall_const, implies_true]
  refine useI_of ⟨_, [7, 8, 2], rfl, ?_, by simp, ?_⟩
  · unfold rdI
    rw [sl_row, List.getElem?_append_right (Nat.le_refl _), Nat.sub_self]
    rfl
  rw [v7]
  simp (maxSteps := 2000000) -implicitDefEqProofs only [↓v_kq, s_len, s_alt, s_alt20, s_alt2t, s_alt2f, ↓s_loopi, ↓v_pq, ↓PRE, POST, CORE, Nat.reduceDiv, Nat.reduceMod, Int.reduceLT, Int.reduceLE, Int.reduceToNat, Int.reduceAdd, ↓reduceIte, Nat.reduceEqDiff, Nat.reduceAdd, Nat.reduceMul, Nat.reduceSub, Nat.reduceLeDiff, Nat.reduceLT, reduceCtorEq, if_true, eq_self, forall_const, implies_true]
  exact hk
def c6 [Inp] : Trans := fun args m k => ∃ (p p' : Option Addr) (c c' : Nat) (a b : List Ra.Rg), args = [.v (.slice p a.length c), .v (.slice p' b.length c')] ∧ inpL p (a.length * 2) = some (rowV gV a) ∧ inpL p' (b.length * 2) = some (rowV gV b) ∧ k (.v (.bool true)) m
def G6 [Inp] : List CEntry := [⟨20, true, c20⟩, ⟨26, true, cMix Ra.tOr⟩, ⟨27, true, cMix Ra.tBut⟩, ⟨28, true, cMix Ra.tAnd⟩, ⟨22, true, c22⟩, ⟨23, true, c23⟩, ⟨24, true, c24⟩, ⟨29, true, c29⟩]
theorem s6 [Inp] : GOk Try.prog G6 := GOk.cons c20_ok (GOk.cons c26_ok (GOk.cons c27_ok (GOk.cons c28_ok (GOk.cons c22_ok (GOk.cons c23_ok (GOk.cons c24_ok (GOk.cons c29_ok (g0 _))))))))
theorem i20 [Inp] {l : List SV} {m : Mem} {K : SV → Mem → Prop} : c20 l m K = @useI c20 l m ⟨K⟩ := Eq.trans rfl rfl
theorem set_self {X : List Ra.Rg} (h1 : Ra.canon X) (h2 : Ra.inB X) : setG X = X := by
  refine (Ra.isSet_eq (Ra.swp_set (T := Ra.tOr) rfl X []) ⟨h1, h2, fun n => ?_⟩)
  rw [← Ra.cov_mem h2 h1, Ra.cov_nil]
  cases Ra.cov X n <;> decide
theorem c6_ok [I : Inp] : Contract Try.prog 6 true c6 := by
  refine .plainArgs fn6 s6 _ fun args m k h => ?_
  obtain ⟨p, p', c, c', a, b, rfl, hin, hin', hk⟩ := h
  refine ⟨rfl, by simp, ?_⟩
  simp (maxSteps := 2000000) -implicitDefEqProofs only [↓x6, ↓r6, ↓G6, ↓i20, s_alt, s_alt20, s_alt2t, s_alt2f, ↓s_loopi, ↓v_pq, ↓PRE, POST, CORE, Nat.reduceDiv, Nat.reduceMod, Int.reduceLT, Int.reduceLE, Int.reduceToNat, Int.reduceAdd, ↓reduceIte, Nat.reduceEqDiff, Nat.reduceAdd, Nat.reduceMul, Nat.reduceSub, Nat.reduceLeDiff, Nat.reduceLT, reduceCtorEq, if_true, eq_self, forall_const, implies_true]
  refine useI_of ⟨rfl, ?_⟩
  by_cases ha : (20 : Int) < (a.length : Int)
  · simp (maxSteps := 2000000) -implicitDefEqProofs only [↓v_kq, ↓G6, ha, s_alt, s_alt20, s_alt2t, s_alt2f, ↓s_loopi, ↓v_pq, ↓PRE, POST, CORE, Nat.reduceDiv, Nat.reduceMod, Int.reduceLT, Int.reduceLE, Int.reduceToNat, Int.reduceAdd, ↓reduceIte, Nat.reduceEqDiff, Nat.reduceAdd, Nat.reduceMul, Nat.reduceSub, Nat.reduceLeDiff, Nat.reduceLT, reduceCtorEq, if_true, eq_self, forall_const, implies_true]
    exact hk
  by_cases hb : (20 : Int) < (b.length : Int)
  · simp (maxSteps := 2000000) -implicitDefEqProofs only [↓v_kq, ↓G6, ha, hb, s_alt, s_alt20, s_alt2t, s_alt2f, ↓s_loopi, ↓v_pq, ↓PRE, POST, CORE, Nat.reduceDiv, Nat.reduceMod, Int.reduceLT, Int.reduceLE, Int.reduceToNat, Int.reduceAdd, ↓reduceIte, Nat.reduceEqDiff, Nat.reduceAdd, Nat.reduceMul, Nat.reduceSub, Nat.reduceLeDiff, Nat.reduceLT, reduceCtorEq, if_true, eq_self, forall_const, implies_true]
    exact hk
  simp (maxSteps := 2000000) -implicitDefEqProofs only [↓v_kq, ↓G6, ↓iMix, ↓i22, ↓i23, ↓i24, ↓i29, ha, hb, s_alt, s_alt20, s_alt2t, s_alt2f, ↓s_loopi, ↓v_pq, ↓PRE, POST, CORE, Nat.reduceDiv, Nat.reduceMod, Int.reduceLT, Int.reduceLE, Int.reduceToNat, Int.reduceAdd, ↓reduceIte, Nat.reduceEqDiff, Nat.reduceAdd, Nat.reduceMul, Nat.reduceSub, Nat.reduceLeDiff, Nat.reduceLT, reduceCtorEq, if_true, eq_self, forall_const, implies_true]
  have na : a.length ≤ 20 := by omega
  have nb : b.length ≤ 20 := by omega
  have hW := Ra.swp_set (T := Ra.tOr) rfl a b
  have hX := Ra.swp_set (T := Ra.tBut) rfl a b
  have hY := Ra.swp_set (T := Ra.tBut) rfl b a
  have hZ := Ra.swp_set (T := Ra.tAnd) rfl a b
  have nW := Ra.swp_len Ra.tOr a b
  have nX := Ra.swp_len Ra.tBut a b
  have nY := Ra.swp_len Ra.tBut b a
  have nZ := Ra.swp_len Ra.tAnd a b
  refine useI_of (useMix (RdE_v hin) (RdE_v hin') (by omega) (by omega) fun j1 m1 r1 _ k1 _ => ?_)
  generalize Ra.swp Ra.tOr a b = W at hW nW r1 ⊢
  simp (maxSteps := 2000000) -implicitDefEqProofs only [↓v_kq, ↓G6, ↓iMix, ↓i22, ↓i23, ↓i24, ↓i29, s_alt, s_alt20, s_alt2t, s_alt2f, ↓s_loopi, ↓v_pq, ↓PRE, POST, CORE, Nat.reduceDiv, Nat.reduceMod, Int.reduceLT, Int.reduceLE, Int.reduceToNat, Int.reduceAdd, ↓reduceIte, Nat.reduceEqDiff, Nat.reduceAdd, Nat.reduceMul, Nat.reduceSub, Nat.reduceLeDiff, Nat.reduceLT, reduceCtorEq, if_true, eq_self, forall_const, implies_true]
  refine useI_of (useMix (RdE_v hin) (RdE_v hin') (by omega) (by omega) fun j2 m2 r2 _ k2 _ => ?_)
  generalize Ra.swp Ra.tBut a b = X at hX nX r2 ⊢
  simp (maxSteps := 2000000) -implicitDefEqProofs only [↓v_kq, ↓G6, ↓iMix, ↓i22, ↓i23, ↓i24, ↓i29, s_alt, s_alt20, s_alt2t, s_alt2f, ↓s_loopi, ↓v_pq, ↓PRE, POST, CORE, Nat.reduceDiv, Nat.reduceMod, Int.reduceLT, Int.reduceLE, Int.reduceToNat, Int.reduceAdd, ↓reduceIte, Nat.reduceEqDiff, Nat.reduceAdd, Nat.reduceMul, Nat.reduceSub, Nat.reduceLeDiff, Nat.reduceLT, reduceCtorEq, if_true, eq_self, forall_const, implies_true]
  refine useI_of (useMix (RdE_v hin') (RdE_v hin) (by omega) (by omega) fun j3 m3 r3 _ k3 _ => ?_)
  generalize Ra.swp Ra.tBut b a = Y at hY nY r3 ⊢
  simp (maxSteps := 2000000) -implicitDefEqProofs only [↓v_kq, ↓G6, ↓iMix, ↓i22, ↓i23, ↓i24, ↓i29, s_alt, s_alt20, s_alt2t, s_alt2f, ↓s_loopi, ↓v_pq, ↓PRE, POST, CORE, Nat.reduceDiv, Nat.reduceMod, Int.reduceLT, Int.reduceLE, Int.reduceToNat, Int.reduceAdd, ↓reduceIte, Nat.reduceEqDiff, Nat.reduceAdd, Nat.reduceMul, Nat.reduceSub, Nat.reduceLeDiff, Nat.reduceLT, reduceCtorEq, if_true, eq_self, forall_const, implies_true]
  refine useI_of (useMix (RdE_v hin) (RdE_v hin') (by omega) (by omega) fun j4 m4 r4 _ k4 _ => ?_)
  generalize Ra.swp Ra.tAnd a b = Z at hZ nZ r4 ⊢
  simp (maxSteps := 2000000) -implicitDefEqProofs only [↓v_kq, ↓G6, ↓iMix, ↓i22, ↓i23, ↓i24, ↓i29, s_alt, s_alt20, s_alt2t, s_alt2f, ↓s_loopi, ↓v_pq, ↓PRE, POST, CORE, Nat.reduceDiv, Nat.reduceMod, Int.reduceLT, Int.reduceLE, Int.reduceToNat, Int.reduceAdd, ↓reduceIte, Nat.reduceEqDiff, Nat.reduceAdd, Nat.reduceMul, Nat.reduceSub, Nat.reduceLeDiff, Nat.reduceLT, reduceCtorEq, if_true, eq_self, forall_const, implies_true]
  have hXY := Ra.swp_set (T := Ra.tOr) rfl X Y
  have nXY := Ra.swp_len Ra.tOr X Y
  replace r1 := k4 _ _ (k3 _ _ (k2 _ _ r1))
  replace r2 := k4 _ _ (k3 _ _ r2)
  replace r3 := k4 _ _ r3
  refine useI_of (useMix r2 r3 (by omega) (by omega) fun j5 m5 r5 _ k5 _ => ?_)
  generalize Ra.swp Ra.tOr X Y = XY at hXY nXY r5 ⊢
  simp (maxSteps := 2000000) -implicitDefEqProofs only [↓v_kq, ↓G6, ↓iMix, ↓i22, ↓i23, ↓i24, ↓i29, s_alt, s_alt20, s_alt2t, s_alt2f, ↓s_loopi, ↓v_pq, ↓PRE, POST, CORE, Nat.reduceDiv, Nat.reduceMod, Int.reduceLT, Int.reduceLE, Int.reduceToNat, Int.reduceAdd, ↓reduceIte, Nat.reduceEqDiff, Nat.reduceAdd, Nat.reduceMul, Nat.reduceSub, Nat.reduceLeDiff, Nat.reduceLT, reduceCtorEq, if_true, eq_self, forall_const, implies_true]
  have hB := Ra.swp_set (T := Ra.tOr) rfl XY Z
  have nB := Ra.swp_len Ra.tOr XY Z
  refine useI_of (useMix r5 (k5 _ _ r4) (by omega) (by omega) fun j6 m6 r6 _ k6 _ => ?_)
  generalize Ra.swp Ra.tOr XY Z = B at hB nB r6 ⊢
  simp (maxSteps := 2000000) -implicitDefEqProofs only [↓v_kq, ↓G6, ↓iMix, ↓i22, ↓i23, ↓i24, ↓i29, s_alt, s_alt20, s_alt2t, s_alt2f, ↓s_loopi, ↓v_pq, ↓PRE, POST, CORE, Nat.reduceDiv, Nat.reduceMod, Int.reduceLT, Int.reduceLE, Int.reduceToNat, Int.reduceAdd, ↓reduceIte, Nat.reduceEqDiff, Nat.reduceAdd, Nat.reduceMul, Nat.reduceSub, Nat.reduceLeDiff, Nat.reduceLT, reduceCtorEq, if_true, eq_self, forall_const, implies_true]
  replace r1 := k6 _ _ (k5 _ _ r1)
  replace r2 := k6 _ _ (k5 _ _ r2)
  replace r3 := k6 _ _ (k5 _ _ r3)
  replace r4 := k6 _ _ (k5 _ _ r4)
  have hE := Ra.swp_set (T := Ra.tAnd) rfl X b
  have hS := Ra.swp_set (T := Ra.tOr) rfl W []
  obtain ⟨l1, l2, l3, l4⟩ := Ra.laws hW hX hY hZ hXY hB hE hS
  refine useI_of (useRows r1 (by omega) fun j7 m7 r7 _ k7 _ => ?_)
  simp (maxSteps := 2000000) -implicitDefEqProofs only [↓v_kq, ↓G6, ↓iMix, ↓i22, ↓i23, ↓i24, ↓i29, s_alt, s_alt20, s_alt2t, s_alt2f, ↓s_loopi, ↓v_pq, ↓PRE, POST, CORE, Nat.reduceDiv, Nat.reduceMod, Int.reduceLT, Int.reduceLE, Int.reduceToNat, Int.reduceAdd, ↓reduceIte, Nat.reduceEqDiff, Nat.reduceAdd, Nat.reduceMul, Nat.reduceSub, Nat.reduceLeDiff, Nat.reduceLT, reduceCtorEq, if_true, eq_self, forall_const, implies_true]
  refine useI_of (useSame (k7 _ _ r6) r7 (by omega) (by omega) ?_)
  rw [l1, beq_self_eq_true]
  simp (maxSteps := 2000000) -implicitDefEqProofs only [↓v_kq, ↓G6, ↓iMix, ↓i22, ↓i23, ↓i24, ↓i29, s_alt, s_alt20, s_alt2t, s_alt2f, ↓s_loopi, ↓v_pq, ↓PRE, POST, CORE, Nat.reduceDiv, Nat.reduceMod, Int.reduceLT, Int.reduceLE, Int.reduceToNat, Int.reduceAdd, ↓reduceIte, Nat.reduceEqDiff, Nat.reduceAdd, Nat.reduceMul, Nat.reduceSub, Nat.reduceLeDiff, Nat.reduceLT, reduceCtorEq, if_true, eq_self, forall_const, implies_true]
  replace r1 := k7 _ _ r1
  replace r2 := k7 _ _ r2
  replace r3 := k7 _ _ r3
  replace r4 := k7 _ _ r4
  refine useI_of (useCount r1 (by omega) ?_)
  simp (maxSteps := 2000000) -implicitDefEqProofs only [↓v_kq, ↓G6, ↓iMix, ↓i22, ↓i23, ↓i24, ↓i29, s_alt, s_alt20, s_alt2t, s_alt2f, ↓s_loopi, ↓v_pq, ↓PRE, POST, CORE, Nat.reduceDiv, Nat.reduceMod, Int.reduceLT, Int.reduceLE, Int.reduceToNat, Int.reduceAdd, ↓reduceIte, Nat.reduceEqDiff, Nat.reduceAdd, Nat.reduceMul, Nat.reduceSub, Nat.reduceLeDiff, Nat.reduceLT, reduceCtorEq, if_true, eq_self, forall_const, implies_true]
  refine useI_of (useCount r2 (by omega) ?_)
  simp (maxSteps := 2000000) -implicitDefEqProofs only [↓v_kq, ↓G6, ↓iMix, ↓i22, ↓i23, ↓i24, ↓i29, s_alt, s_alt20, s_alt2t, s_alt2f, ↓s_loopi, ↓v_pq, ↓PRE, POST, CORE, Nat.reduceDiv, Nat.reduceMod, Int.reduceLT, Int.reduceLE, Int.reduceToNat, Int.reduceAdd, ↓reduceIte, Nat.reduceEqDiff, Nat.reduceAdd, Nat.reduceMul, Nat.reduceSub, Nat.reduceLeDiff, Nat.reduceLT, reduceCtorEq, if_true, eq_self, forall_const, implies_true]
  refine useI_of (useCount r3 (by omega) ?_)
  have eW := set_self hW.1 hW.2.1
  have eX := set_self hX.1 hX.2.1
  have eY := set_self hY.1 hY.2.1
  have eZ := set_self hZ.1 hZ.2.1
  have bX := Ra.lenS_in hX.2.1 hX.1
  have bY := Ra.lenS_in hY.2.1 hY.1
  have bZ := Ra.lenS_in hZ.2.1 hZ.1
  unfold Ra.Mx at bX bY bZ
  have w1 : IntKind.i64.wrap (Ra.lenS X + Ra.lenS Y) = Ra.lenS X + Ra.lenS Y := Sz.w_64 (by omega) (by omega)
  have w2 : IntKind.i64.wrap (Ra.lenS X + Ra.lenS Y + Ra.lenS Z) = Ra.lenS X + Ra.lenS Y + Ra.lenS Z := Sz.w_64 (by omega) (by omega)
  rw [eW, eX, eY]
  simp (maxSteps := 2000000) -implicitDefEqProofs only [↓v_kq, ↓G6, ↓iMix, ↓i22, ↓i23, ↓i24, ↓i29, w1, s_alt, s_alt20, s_alt2t, s_alt2f, ↓s_loopi, ↓v_pq, ↓PRE, POST, CORE, Nat.reduceDiv, Nat.reduceMod, Int.reduceLT, Int.reduceLE, Int.reduceToNat, Int.reduceAdd, ↓reduceIte, Nat.reduceEqDiff, Nat.reduceAdd, Nat.reduceMul, Nat.reduceSub, Nat.reduceLeDiff, Nat.reduceLT, reduceCtorEq, if_true, eq_self, forall_const, implies_true]
  refine useI_of (useCount r4 (by omega) ?_)
  rw [eZ, l2]
  simp (maxSteps := 2000000) -implicitDefEqProofs only [↓v_kq, ↓G6, ↓iMix, ↓i22, ↓i23, ↓i24, ↓i29, w2, s_alt, s_alt20, s_alt2t, s_alt2f, ↓s_loopi, ↓v_pq, ↓PRE, POST, CORE, Nat.reduceDiv, Nat.reduceMod, Int.reduceLT, Int.reduceLE, Int.reduceToNat, Int.reduceAdd, ↓reduceIte, Nat.reduceEqDiff, Nat.reduceAdd, Nat.reduceMul, Nat.reduceSub, Nat.reduceLeDiff, Nat.reduceLT, reduceCtorEq, if_true, eq_self, forall_const, implies_true]
  simp only [beq_self_eq_true, if_true]
  refine useI_of (useMix r2 (RdE_v hin') (by omega) (by omega) fun j8 m8 r8 _ k8 _ => ?_)
  rw [l3, List.length_nil, rS_0]
  simp (maxSteps := 2000000) -implicitDefEqProofs only [↓v_kq, ↓G6, ↓iMix, ↓i22, ↓i23, ↓i24, ↓i29, s_alt, s_alt20, s_alt2t, s_alt2f, ↓s_loopi, ↓v_pq, ↓PRE, POST, CORE, Nat.reduceDiv, Nat.reduceMod, Int.reduceLT, Int.reduceLE, Int.reduceToNat, Int.reduceAdd, ↓reduceIte, Nat.reduceEqDiff, Nat.reduceAdd, Nat.reduceMul, Nat.reduceSub, Nat.reduceLeDiff, Nat.reduceLT, reduceCtorEq, if_true, eq_self, forall_const, implies_true]
  refine useI_of (useSet (k8 _ _ r1) (by omega) fun j9 m9 r9 _ k9 _ => ?_)
  simp (maxSteps := 2000000) -implicitDefEqProofs only [↓v_kq, ↓G6, ↓iMix, ↓i22, ↓i23, ↓i24, ↓i29, s_alt, s_alt20, s_alt2t, s_alt2f, ↓s_loopi, ↓v_pq, ↓PRE, POST, CORE, Nat.reduceDiv, Nat.reduceMod, Int.reduceLT, Int.reduceLE, Int.reduceToNat, Int.reduceAdd, ↓reduceIte, Nat.reduceEqDiff, Nat.reduceAdd, Nat.reduceMul, Nat.reduceSub, Nat.reduceLeDiff, Nat.reduceLT, reduceCtorEq, if_true, eq_self, forall_const, implies_true]
  refine useI_of (useRows (k9 _ _ (k8 _ _ r1)) (by omega) fun j10 m10 r10 _ k10 _ => ?_)
  simp (maxSteps := 2000000) -implicitDefEqProofs only [↓v_kq, ↓G6, ↓iMix, ↓i22, ↓i23, ↓i24, ↓i29, s_alt, s_alt20, s_alt2t, s_alt2f, ↓s_loopi, ↓v_pq, ↓PRE, POST, CORE, Nat.reduceDiv, Nat.reduceMod, Int.reduceLT, Int.reduceLE, Int.reduceToNat, Int.reduceAdd, ↓reduceIte, Nat.reduceEqDiff, Nat.reduceAdd, Nat.reduceMul, Nat.reduceSub, Nat.reduceLeDiff, Nat.reduceLT, reduceCtorEq, if_true, eq_self, forall_const, implies_true]
  refine useI_of (useSame (k10 _ _ r9) r10 (by have := setG_len W; omega) (by omega) ?_)
  rw [eW]
  simp (maxSteps := 2000000) -implicitDefEqProofs only [↓v_kq, ↓G6, ↓iMix, ↓i22, ↓i23, ↓i24, ↓i29, s_alt, s_alt20, s_alt2t, s_alt2f, ↓s_loopi, ↓v_pq, ↓PRE, POST, CORE, Nat.reduceDiv, Nat.reduceMod, Int.reduceLT, Int.reduceLE, Int.reduceToNat, Int.reduceAdd, ↓reduceIte, Nat.reduceEqDiff, Nat.reduceAdd, Nat.reduceMul, Nat.reduceSub, Nat.reduceLeDiff, Nat.reduceLT, reduceCtorEq, if_true, eq_self, forall_const, implies_true]
  rw [show (W == W) = true from beq_self_eq_true W]
  exact hk
end Rc
end Go.Proofs.Ytcejgadbpahbmaa
end
section
namespace Go.Proofs.Ytcejgadbpahbmaa
open Go.ChangeShapes Go.WideShapes Go.ChangeAt Go.RowKit Go.Deep
theorem add_plain' (g o j : Nat) : (⟨g, o, none⟩ : Addr).add j = ⟨g, o + j, none⟩ := by unfold Addr.add; split <;> simp_all
inductive Sh where
  | nil
  | int (k : IntKind) (r : Sh)
  | bool (r : Sh)
  | str (r : Sh)
  | sl (e : Sh) (r : Sh)
def Sh.len : Sh → Nat
  | .nil => 0
  | .int _ r | .bool r | .str r | .sl _ r => r.len + 1
def Sh.app : Sh → Sh → Sh
  | .nil, b => b
  | .int k r, b => .int k (r.app b)
  | .bool r, b => .bool (r.app b)
  | .str r, b => .str (r.app b)
  | .sl e r, b => .sl e (r.app b)
def Sh.rep (a : Sh) : Nat → Sh
  | 0 => .nil
  | n + 1 => a.app (a.rep n)
def SlFits (w : World) (v : Value) (sz : Nat) (F : List Value → Prop) : Prop :=
  ∃ A n c, v = .slice A n c ∧ n ≤ c ∧ c ≤ maxLen ∧ (A = none → c = 0) ∧
    ∀ a, A = some a → ∀ i, i < n → ∃ cs : List Value, cs.length = sz ∧ (∀ j u, cs[j]? = some u → w.cell? ((a.add (i * sz)).add j) = some u) ∧ F cs
def Sh.fits (w : World) : Sh → List Value → Prop
  | .nil, cs => cs = []
  | .int k r, cs => ∃ n cs', cs = .int k n :: cs' ∧ (Lit.int k n).wf = true ∧ r.fits w cs'
  | .bool r, cs => ∃ b cs', cs = .bool b :: cs' ∧ r.fits w cs'
  | .str r, cs => ∃ s cs', cs = .string s :: cs' ∧ s.size ≤ maxLen ∧ r.fits w cs'
  | .sl e r, cs => ∃ v cs', cs = v :: cs' ∧ SlFits w v e.len (e.fits w) ∧ r.fits w cs'
theorem Sh.fits_len {w : World} : ∀ {s : Sh} {cs : List Value}, s.fits w cs → cs.length = s.len
  | .nil, cs, h => by simp only [Sh.fits] at h; simp [h, Sh.len]
  | .int k r, cs, h => by obtain ⟨n, cs', rfl, _, h'⟩ := h; simp [Sh.len, Sh.fits_len h']
  | .bool r, cs, h => by obtain ⟨n, cs', rfl, h'⟩ := h; simp [Sh.len, Sh.fits_len h']
  | .str r, cs, h => by obtain ⟨n, cs', rfl, _, h'⟩ := h; simp [Sh.len, Sh.fits_len h']
  | .sl e r, cs, h => by obtain ⟨n, cs', rfl, _, h'⟩ := h; simp [Sh.len, Sh.fits_len h']
theorem Sh.fits_app {w : World} {b : Sh} {ds : List Value} (hb : b.fits w ds) : ∀ {a : Sh} {cs : List Value}, a.fits w cs → (a.app b).fits w (cs ++ ds)
  | .nil, cs, h => by simp only [Sh.fits] at h; subst h; simpa [Sh.app] using hb
  | .int k r, cs, h => by obtain ⟨n, cs', rfl, h1, h'⟩ := h; exact ⟨n, cs' ++ ds, rfl, h1, Sh.fits_app hb h'⟩
  | .bool r, cs, h => by obtain ⟨n, cs', rfl, h'⟩ := h; exact ⟨n, cs' ++ ds, rfl, Sh.fits_app hb h'⟩
  | .str r, cs, h => by obtain ⟨n, cs', rfl, h1, h'⟩ := h; exact ⟨n, cs' ++ ds, rfl, h1, Sh.fits_app hb h'⟩
  | .sl e r, cs, h => by obtain ⟨n, cs', rfl, h1, h'⟩ := h; exact ⟨n, cs' ++ ds, rfl, h1, Sh.fits_app hb h'⟩
theorem Sh.app_len : ∀ {a b : Sh}, (a.app b).len = a.len + b.len
  | .nil, b => by simp [Sh.app, Sh.len]
  | .int k r, b => by simp [Sh.app, Sh.len, Sh.app_len (a := r)]; omega
  | .bool r, b => by simp [Sh.app, Sh.len, Sh.app_len (a := r)]; omega
  | .str r, b => by simp [Sh.app, Sh.len, Sh.app_len (a := r)]; omega
  | .sl e r, b => by simp [Sh.app, Sh.len, Sh.app_len (a := r)]; omega
section
variable (P : Program)
end
section
variable {P : Program} {H : Type} {enc : TypeId × Value → H} {w : World} {base : Nat} {spare : Nat → Bool} {held : Bool}
end
theorem sl_open {w : World} {v : Value} {sz : Nat} {F : List Value → Prop} (h : SlFits w v sz F) (hsz : 0 < sz) :
    ∃ A n c, v = .slice A n c ∧ n ≤ c ∧ c ≤ maxLen ∧ (n = 0 ∨ ∃ g o, A = some ⟨g, o, none⟩ ∧ ∀ i, i < n → ∃ cs : List Value, cs.length = sz ∧ (∀ j u, cs[j]? = some u → w.cell? ⟨g, o + i * sz + j, none⟩ = some u) ∧ F cs) := by
  obtain ⟨A, n, c, rfl, hn, hc, hA, hcell⟩ := h
  refine ⟨A, n, c, rfl, hn, hc, ?_⟩
  rcases Nat.eq_zero_or_pos n with h0 | h0
  · exact .inl h0
  · right
    cases A with
    | none => have := hA rfl; omega
    | some a =>
      obtain ⟨g, o, spot⟩ := a
      obtain ⟨cs, hl, hg, _⟩ := hcell _ rfl 0 h0
      obtain ⟨x, hx⟩ : ∃ x, cs[0]? = some x := ⟨_, List.getElem?_eq_getElem (by omega)⟩
      have hc0 := hg 0 x hx
      have hspot : spot = Option.none := by simpa [Addr.add] using World.cell?_spot hc0
      subst hspot
      refine ⟨g, o, rfl, fun i hi => ?_⟩
      obtain ⟨cs, hl, hg, hF⟩ := hcell _ rfl i hi
      refine ⟨cs, hl, fun j u hj => ?_, hF⟩
      have := hg j u hj
      rwa [add_plain', add_plain'] at this
theorem list_of {α : Type} {p : Nat → α → Prop} : ∀ (n : Nat), (∀ i, i < n → ∃ x, p i x) → ∃ l : List α, l.length = n ∧ ∀ i x, l[i]? = some x → p i x
  | 0, _ => ⟨[], rfl, fun i x h => by simp at h⟩
  | n + 1, h => by
    obtain ⟨l, hl, hp⟩ := list_of n (fun i hi => h i (by omega))
    obtain ⟨x, hx⟩ := h n (by omega)
    refine ⟨l ++ [x], by simp [hl], fun i y hy => ?_⟩
    rcases Nat.lt_or_ge i n with hi | hi
    · rw [List.getElem?_append_left (by omega)] at hy; exact hp i y hy
    · rw [List.getElem?_append_right (by omega)] at hy
      have : i - l.length = 0 := by
        rcases Nat.eq_zero_or_pos (i - l.length) with h | h
        · exact h
        · rw [List.getElem?_eq_none (by simp; omega)] at hy; cases hy
      rw [this] at hy
      simp at hy
      subst hy
      have : i = n := by omega
      subst this; exact hx
end Go.Proofs.Ytcejgadbpahbmaa
end
section
namespace Go.Proofs.Ytcejgadbpahbmaa.Sz
open Go.RowKit
theorem rowV_get {α : Type} {cs : α → List Value} {z : Nat} (hz : ∀ x, (cs x).length = z) (h0 : 0 < z) : ∀ {l : List α} {j : Nat} {u : Value}, (rowV cs l)[j]? = some u → ∃ x, l[j / z]? = some x ∧ (cs x)[j % z]? = some u
  | [], j, u, h => by simp [rowV] at h
  | x :: l, j, u, h => by
    have e : rowV cs (x :: l) = cs x ++ rowV cs l := rfl
    rw [e] at h
    by_cases hj : j < z
    · rw [List.getElem?_append_left (by rw [hz]; exact hj)] at h
      exact ⟨x, by rw [Nat.div_eq_of_lt hj]; rfl, by rw [Nat.mod_eq_of_lt hj]; exact h⟩
    · rw [List.getElem?_append_right (by rw [hz]; omega), hz] at h
      obtain ⟨y, h1, h2⟩ := rowV_get hz h0 h
      refine ⟨y, ?_, ?_⟩
      · rw [Nat.div_eq_sub_div h0 (by omega)]
        simpa using h1
      · rw [Nat.mod_eq_sub_mod (by omega)]; exact h2
theorem rows_of_sl {α : Type} {cs : α → List Value} {z : Nat} (hz : ∀ x, (cs x).length = z) (h0 : 0 < z) {W : World} {v : Value} {F : List Value → Prop} {Q : α → Prop} (h : SlFits W v z F) (hF : ∀ l, F l → ∃ x, cs x = l ∧ Q x) :
    ∃ A n c l, v = .slice A n c ∧ n ≤ c ∧ c ≤ 9223372036854775807 ∧ l.length = n ∧ (∀ x ∈ l, Q x) ∧ @inpL (inpOf W) A (n * z) = some (rowV cs l) := by
  obtain ⟨A, n, c, rfl, hn, hc, hh⟩ := sl_open h h0
  have hc' : c ≤ 9223372036854775807 := by simpa [maxLen] using hc
  rcases hh with rfl | ⟨g, o, rfl, hcell⟩
  · exact ⟨A, 0, c, [], rfl, hn, hc', rfl, by simp, by simp [inpL, rowV]⟩
  · obtain ⟨l, hl, hp⟩ := list_of (p := fun i x => Q x ∧ ∀ j u, (cs x)[j]? = some u → W.cell? ⟨g, o + i * z + j, none⟩ = some u) n (fun i hi => by
      obtain ⟨us, _, h1, h2⟩ := hcell i hi
      obtain ⟨x, rfl, hq⟩ := hF us h2
      exact ⟨x, hq, h1⟩)
    refine ⟨_, n, c, l, rfl, hn, hc', hl, fun x hx => ?_, inpL_of (I := inpOf W) (by rw [rowV_len hz, hl]) fun _ => ⟨_, rfl, rfl, fun j u hj => ?_⟩⟩
    · obtain ⟨i, hi⟩ := List.getElem?_of_mem hx
      exact (hp i x hi).1
    · obtain ⟨x, h1, h2⟩ := rowV_get hz h0 hj
      have := (hp _ x h1).2 _ u h2
      show W.cell? ((⟨g, o, none⟩ : Addr).add j) = some u
      rw [Addr.add_lit]
      have e : o + j / z * z + j % z = o + j := by rw [Nat.add_assoc, Nat.mul_comm, Nat.div_add_mod]
      rwa [e] at this
end Go.Proofs.Ytcejgadbpahbmaa.Sz
end
section
namespace Go.Proofs.Ytcejgadbpahbmaa
open Go.ChangeShapes Go.WideShapes Go.ChangeAt Go.RowKit Go.Deep
inductive ShR where
  | nil
  | int (k : IntKind) (r : ShR)
  | bool (r : ShR)
  | str (r : ShR)
  | sl (b : Nat) (e : ShR) (r : ShR)
def ShR.len : ShR → Nat
  | .nil => 0
  | .int _ r | .bool r | .str r | .sl _ _ r => r.len + 1
def ShR.app : ShR → ShR → ShR
  | .nil, b => b
  | .int k r, b => .int k (r.app b)
  | .bool r, b => .bool (r.app b)
  | .str r, b => .str (r.app b)
  | .sl q e r, b => .sl q e (r.app b)
def ShR.rep (a : ShR) : Nat → ShR
  | 0 => .nil
  | n + 1 => a.app (a.rep n)
def SlFitsR (w : World) (v : Value) (sz b : Nat) (F : List Value → Prop) : Prop :=
  SlFits w v sz F ∧ ∀ A n c, v = .slice A n c → n * b ≤ reachBytes
def ShR.fits (w : World) : ShR → List Value → Prop
  | .nil, cs => cs = []
  | .int k r, cs => ∃ n cs', cs = .int k n :: cs' ∧ (Lit.int k n).wf = true ∧ r.fits w cs'
  | .bool r, cs => ∃ b cs', cs = .bool b :: cs' ∧ r.fits w cs'
  | .str r, cs => ∃ s cs', cs = .string s :: cs' ∧ s.size ≤ reachBytes ∧ r.fits w cs'
  | .sl q e r, cs => ∃ v cs', cs = v :: cs' ∧ SlFitsR w v e.len q (e.fits w) ∧ r.fits w cs'
theorem ShR.fits_len {w : World} : ∀ {s : ShR} {cs : List Value}, s.fits w cs → cs.length = s.len
  | .nil, cs, h => by simp only [ShR.fits] at h; simp [h, ShR.len]
  | .int k r, cs, h => by obtain ⟨n, cs', rfl, _, h'⟩ := h; simp [ShR.len, ShR.fits_len h']
  | .bool r, cs, h => by obtain ⟨n, cs', rfl, h'⟩ := h; simp [ShR.len, ShR.fits_len h']
  | .str r, cs, h => by obtain ⟨n, cs', rfl, _, h'⟩ := h; simp [ShR.len, ShR.fits_len h']
  | .sl q e r, cs, h => by obtain ⟨n, cs', rfl, _, h'⟩ := h; simp [ShR.len, ShR.fits_len h']
theorem ShR.fits_app {w : World} {b : ShR} {ds : List Value} (hb : b.fits w ds) : ∀ {a : ShR} {cs : List Value}, a.fits w cs → (a.app b).fits w (cs ++ ds)
  | .nil, cs, h => by simp only [ShR.fits] at h; subst h; simpa [ShR.app] using hb
  | .int k r, cs, h => by obtain ⟨n, cs', rfl, h1, h'⟩ := h; exact ⟨n, cs' ++ ds, rfl, h1, ShR.fits_app hb h'⟩
  | .bool r, cs, h => by obtain ⟨n, cs', rfl, h'⟩ := h; exact ⟨n, cs' ++ ds, rfl, ShR.fits_app hb h'⟩
  | .str r, cs, h => by obtain ⟨n, cs', rfl, h1, h'⟩ := h; exact ⟨n, cs' ++ ds, rfl, h1, ShR.fits_app hb h'⟩
  | .sl q e r, cs, h => by obtain ⟨n, cs', rfl, h1, h'⟩ := h; exact ⟨n, cs' ++ ds, rfl, h1, ShR.fits_app hb h'⟩
theorem ShR.app_len : ∀ {a b : ShR}, (a.app b).len = a.len + b.len
  | .nil, b => by simp [ShR.app, ShR.len]
  | .int k r, b => by simp [ShR.app, ShR.len, ShR.app_len (a := r)]; omega
  | .bool r, b => by simp [ShR.app, ShR.len, ShR.app_len (a := r)]; omega
  | .str r, b => by simp [ShR.app, ShR.len, ShR.app_len (a := r)]; omega
  | .sl q e r, b => by simp [ShR.app, ShR.len, ShR.app_len (a := r)]; omega
section
variable (P : Program)
def shFieldsR (one : TypeId → Option ShR) : Nat → List Field → Option ShR
  | _, [] => some .nil
  | off, f :: fs => (one f.type).bind fun a => if f.offset = off ∧ P.cellsOf f.type = a.len then (shFieldsR one (off + a.len) fs).map (a.app ·) else none
def shOfR : Nat → TypeId → Option ShR
  | 0, _ => none
  | n + 1, t => match P.underlying t with
    | some .bool => some (.bool .nil)
    | some (.int k) => some (.int k .nil)
    | some .string => some (.str .nil)
    | some (.slice e) => (shOfR n e).bind fun a => if P.cellsOf e = a.len then some (.sl (P.bytesOf e) a .nil) else none
    | some (.struct fs) => (shFieldsR P (shOfR n) 0 fs.toList).bind fun a => if P.cellsOf t = a.len then some a else none
    | some (.array k e) => (shOfR n e).bind fun a => if P.cellsOf e = a.len ∧ P.cellsOf t = k * a.len then some (a.rep k) else none
    | _ => none
end
section
variable {P : Program} {H : Type} {enc : TypeId × Value → H} {w : World} {base : Nat} {spare : Nat → Bool} {held : Bool}
theorem weightsAll_mem {e : TypeId} : ∀ {l : List (DataW H)} {d : DataW H}, d ∈ l → ∀ {q : Nat}, q ∈ d.weights P e → q ∈ DataW.weightsAll P e l
  | [], d, h, q, hq => by simp at h
  | x :: l, d, h, q, hq => by
    simp only [DataW.weightsAll, List.mem_append]
    rcases List.mem_cons.1 h with rfl | h
    · exact .inl hq
    · exact .inr (weightsAll_mem h hq)
theorem fieldsR_fit {one : TypeId → Option ShR} {m : Nat} {cs : List Value} (ih : ∀ t sh ds x, one t = some sh → DataW.trod enc P w base spare held m t ds = some x → (∀ q ∈ x.1.weights P t, q ≤ reachBytes) → sh.fits w ds) :
    ∀ (fs : List Field) (off : Nat) (sh : ShR), shFieldsR P one off fs = some sh → (∀ f ∈ fs, ∃ y, DataW.trod enc P w base spare held m f.type ((cs.drop f.offset).take (P.cellsOf f.type)) = some y ∧ (∀ q ∈ y.1.weights P f.type, q ≤ reachBytes)) →
      cs.length = off + sh.len → sh.fits w (cs.drop off)
  | [], off, sh, h, _, hl => by
    simp only [shFieldsR, Option.some.injEq] at h
    subst h
    simp only [ShR.len, Nat.add_zero] at hl
    show cs.drop off = []
    rw [List.drop_eq_nil_iff]; omega
  | f :: fs, off, sh, h, hf, hl => by
    simp only [shFieldsR, Option.bind_eq_some_iff] at h
    obtain ⟨a, ha, h⟩ := h
    split at h
    · rename_i hc
      obtain ⟨ho, hk⟩ := hc
      simp only [Option.map_eq_some_iff] at h
      obtain ⟨b, hb, rfl⟩ := h
      rw [ShR.app_len] at hl
      obtain ⟨y, hy, hyw⟩ := hf f (by simp)
      rw [ho, hk] at hy
      have h1 := ih _ _ _ _ ha hy hyw
      have h2 := fieldsR_fit ih fs (off + a.len) b hb (fun g hg => hf g (by simp [hg])) (by omega)
      have e : cs.drop off = (cs.drop off).take a.len ++ cs.drop (off + a.len) := by
        rw [← List.drop_drop, List.take_append_drop]
      rw [e]
      exact ShR.fits_app h2 h1
    · cases h
theorem arrayR_fit {m : Nat} {cs : List Value} {e : TypeId} {a : ShR} (ih : ∀ ds x, DataW.trod enc P w base spare held m e ds = some x → (∀ q ∈ x.1.weights P e, q ≤ reachBytes) → a.fits w ds) :
    ∀ (k i : Nat), (∀ j, i ≤ j → j < i + k → ∃ y, DataW.trod enc P w base spare held m e ((cs.drop (j * a.len)).take a.len) = some y ∧ (∀ q ∈ y.1.weights P e, q ≤ reachBytes)) → cs.length = (i + k) * a.len → (a.rep k).fits w (cs.drop (i * a.len))
  | 0, i, _, hl => by
    show cs.drop _ = []
    rw [List.drop_eq_nil_iff]; simp at hl; omega
  | k + 1, i, hf, hl => by
    obtain ⟨y, hy, hyw⟩ := hf i (Nat.le_refl _) (by omega)
    have h1 := ih _ _ hy hyw
    have h2 := arrayR_fit ih k (i + 1) (fun j h1 h2 => hf j (by omega) (by omega)) (by rw [hl]; congr 1; omega)
    have e : cs.drop (i * a.len) = (cs.drop (i * a.len)).take a.len ++ cs.drop ((i + 1) * a.len) := by
      rw [Nat.add_mul, Nat.one_mul, ← List.drop_drop, List.take_append_drop]
    rw [e]
    exact ShR.fits_app h2 h1
theorem fitsR_of_trod : ∀ (n : Nat) (t : TypeId) (sh : ShR) (fuel : Nat) (cs : List Value) (x : DataW H × List MemPlace), shOfR P n t = some sh → DataW.trod enc P w base spare held fuel t cs = some x → (∀ q ∈ x.1.weights P t, q ≤ reachBytes) → sh.fits w cs
  | 0, _, _, _, _, _, h, _, _ => by simp [shOfR] at h
  | n + 1, t, sh, fuel, cs, x, h, ht, hz => by
    unfold shOfR at h
    split at h
    · rename_i hu
      obtain ⟨b, rfl, _⟩ := DataW.trod_bool hu ht
      simp only [Option.some.injEq] at h; subst h
      exact ⟨b, [], rfl, rfl⟩
    · rename_i k hu
      obtain ⟨z, rfl, _, hw⟩ := DataW.trod_int hu ht
      simp only [Option.some.injEq] at h; subst h
      exact ⟨z, [], rfl, hw, rfl⟩
    · rename_i hu
      obtain ⟨z, rfl, rfl, hw⟩ := DataW.trod_string hu ht
      simp only [Option.some.injEq] at h; subst h
      have hz1 := hz z.data.toList.length (by simp [DataW.weights])
      exact ⟨z, [], rfl, by rw [Array.length_toList] at hz1; exact hz1, rfl⟩
    · rename_i e hu
      simp only [Option.bind_eq_some_iff] at h
      obtain ⟨a, ha, h⟩ := h
      split at h
      · rename_i hc
        simp only [Option.some.injEq] at h; subst h
        rcases open_slice hu ht with ⟨rfl, _⟩ | ⟨ad, len, cap, m, f, D, Pl, rfl, _, hl, hm, hmm, rfl, hi⟩
        · exact ⟨_, [], rfl, ⟨⟨Option.none, 0, 0, rfl, Nat.le_refl _, Nat.zero_le _, fun _ => rfl, fun a ha => by cases ha⟩, fun A n c hv => by cases hv; omega⟩, rfl⟩
        · have hzl : len * P.bytesOf e ≤ reachBytes := by
            have h1 := hz ((((List.range len).map D).length + ((List.range (m - len)).map fun j => D (len + j)).length) * P.bytesOf e) (by simp [DataW.weights, hu])
            refine Nat.le_trans (Nat.mul_le_mul_right _ ?_) h1
            simp
          refine ⟨_, [], rfl, ⟨⟨some ad, len, cap, rfl, hl, hm, ?_, fun a' ha' i hilt => ?_⟩, fun A n c hv => by cases hv; exact hzl⟩, rfl⟩
          · intro h; cases h
          simp only [Option.some.injEq] at ha'
          subst ha'
          have him : i < m := by rw [hmm]; split <;> omega
          obtain ⟨cs', hc', ht'⟩ := hi i him
          obtain ⟨_, hlen, hget⟩ := World.cells?_some hc'
          rw [hc] at hlen hget
          refine ⟨cs', hlen, fun j u hj => ?_, fitsR_of_trod n e a f cs' _ ha ht' fun q hq => hz q ?_⟩
          rotate_left
          · simp only [DataW.weights, hu, List.mem_cons, List.mem_append]
            exact .inr (.inl (weightsAll_mem (List.mem_map.2 ⟨i, by simpa using hilt, rfl⟩) hq))
          have hjl : j < cs'.length := (List.getElem?_eq_some_iff.1 hj).1
          rw [hget j (by omega)]; exact hj
      · cases h
    · rename_i fs hu
      simp only [Option.bind_eq_some_iff] at h
      obtain ⟨a, ha, h⟩ := h
      split at h
      · rename_i hc
        simp only [Option.some.injEq] at h; subst h
        obtain ⟨xs, m, _, rfl, hl, hxl, hf⟩ := DataW.trod_struct hu ht
        have := fieldsR_fit (cs := cs) (m := m) (enc := enc) (base := base) (spare := spare) (held := held) (w := w) (fun t sh ds x h1 h2 h3 => fitsR_of_trod n t sh m ds x h1 h2 h3) fs.toList 0 a ha (fun f hf' => ?_) (by omega)
        · simpa using this
        · obtain ⟨i, hi, hfi⟩ := List.getElem_of_mem hf'
          have hfi' : fs[i]? = some f := by rw [← hfi, Array.getElem_toList, Array.getElem?_eq_getElem]
          have h3 := hf i f hfi'
          have hlt : i < xs.length := by rw [hxl]; simpa using hi
          refine ⟨xs[i], by rw [h3]; exact List.getElem?_eq_getElem hlt, fun q hq => hz q ?_⟩
          simp only [DataW.weights, hu]
          exact DataW.weights_mem_each (j := i) (t := f.type) (d := xs[i].1) (by simp [hfi']) (by simp [hlt]) q hq
      · cases h
    · rename_i k e hu
      simp only [Option.bind_eq_some_iff] at h
      obtain ⟨a, ha, h⟩ := h
      split at h
      · rename_i hc
        obtain ⟨hc1, hc2⟩ := hc
        simp only [Option.some.injEq] at h; subst h
        obtain ⟨xs, m, _, rfl, hl, hxl, hf⟩ := DataW.trod_array hu ht
        rw [hc1] at hf
        have := arrayR_fit (cs := cs) (m := m) (enc := enc) (base := base) (spare := spare) (held := held) (w := w) (P := P) (fun ds x h2 h3 => fitsR_of_trod n e a m ds x ha h2 h3) k 0 (fun j _ hj => ?_) (by rw [hl, hc2, Nat.zero_add])
        · simpa using this
        · have hlt : j < xs.length := by omega
          refine ⟨xs[j], by rw [hf j (by omega)]; exact List.getElem?_eq_getElem hlt, fun q hq => hz q ?_⟩
          simp only [DataW.weights, hu]
          exact weightsAll_mem (List.mem_map.2 ⟨xs[j], List.getElem_mem _, rfl⟩) hq
      · cases h
    · cases h
theorem openR_any {t : TypeId} {v : Value} {d : DataW H} {p : List MemPlace} {n : Nat} {sh : ShR} (hs : shOfR P n t = some sh) (h : DataW.Trod enc P w base spare held t v d p) (hz : ∀ q ∈ d.weights P t, q ≤ reachBytes) : sh.fits w v.cells.toList := by
  obtain ⟨fuel, hf⟩ := h
  exact fitsR_of_trod n t sh fuel _ _ hs hf hz
theorem openR_sls {t e : TypeId} {v : Value} {d : DataW H} {p : List MemPlace} {n b : Nat} {r : Reach} {a : ShR} {y : Nat} (hu : P.underlying t = some (.slice e)) (hs : shOfR P n t = some (.sl y a .nil)) (hv : Value.okWide P w r b t v) (h : DataW.Trod enc P w base spare held t v d p) (hz : ∀ q ∈ d.weights P t, q ≤ reachBytes) :
    SlFitsR w v a.len y (a.fits w) := by
  have hf := openR_any hs h hz
  obtain ⟨A, l, c, rfl⟩ := okWide_slice hu hv
  obtain ⟨x, cs', he, hx, _⟩ := hf
  simp only [Value.cells, List.cons.injEq] at he
  rw [he.1]; exact hx
end
end Go.Proofs.Ytcejgadbpahbmaa
end
