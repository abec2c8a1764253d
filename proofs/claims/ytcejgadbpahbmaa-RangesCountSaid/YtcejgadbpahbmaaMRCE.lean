/- Walks and plain facts for the law RangesCount, part MRCE. No condition. -/
import Derived.Test.YtcejgadbpahbmaaMRCD
import Derived.Test.YtcejgadbpahbmaaMRCC
set_option linter.unusedVariables false
set_option linter.unusedSimpArgs false
section
namespace Go.Proofs.Ytcejgadbpahbmaa
open Go.RowKit Sz
set_option maxHeartbeats 16000000
set_option maxRecDepth 20000
namespace Rc
theorem app_e [Inp] {A B : List Ra.Ed} {K : SV → Mem → Prop} (hA : A.length ≤ 100000) (hB : B.length ≤ 100000) (h0 : A ++ B = [] → K (.v (.slice none 0 0)) []) (h1 : ∀ H : Mem, A ++ B ≠ [] → H.length ≤ 2 → K (.row H.length 0 (A ++ B).length 3) (H ++ [⟨true, vL eV (A ++ B)⟩])) :
    appK 3 24 (rS 0 3 A.length) (slOf (rM (vL eV A) ++ rM (vL eV B)) 3 (rS 0 3 A.length)) (slOf (rM (vL eV A) ++ rM (vL eV B)) 3 (rS (rM (vL eV A)).length 3 B.length)) (rM (vL eV A) ++ rM (vL eV B)) K := by
  have ones := fun l : List Ra.Ed => @e_ones l
  by_cases ha : A = []
  · subst ha
    rw [vL_nil, rM_0, List.length_nil, rS_0, List.nil_append, List.length_nil, sl_0]
    by_cases hb : B = []
    · subst hb
      rw [vL_nil, rM_0, List.length_nil, rS_0, sl_0]
      exact ⟨Nat.le_refl _, h0 rfl⟩
    · have hn : B.length ≠ 0 := fun e => hb (List.length_eq_zero_iff.1 e)
      have hm : rM (vL eV B) = [⟨true, vL eV B⟩] := rM_ne (vL_ne eV_len (by omega) hb)
      rw [rS_ne hn, hm, sl_row]
      show appK 3 24 _ (some (0, [])) (slK (some _) 0 B.length 3) _ K
      rw [sl_k, Nat.zero_add, if_pos (by show B.length * 3 ≤ (vL eV B).length; rw [e_len]; exact Nat.le_refl _), List.drop_zero, List.take_of_length_le (by show (vL eV B).length ≤ _; rw [e_len]; exact Nat.le_refl _)]
      have h2 := h1 [⟨true, vL eV B⟩] (by simpa using hb) (by simp)
      unfold appK
      simp only [hn, if_false]
      refine ⟨⟨rfl, rfl, by rw [e_len], Nat.pos_of_ne_zero hn, ones B, by unfold maxLen; omega, by omega⟩, ?_⟩
      simpa [k_v] using h2
  · have hn : A.length ≠ 0 := fun e => ha (List.length_eq_zero_iff.1 e)
    have hm : rM (vL eV A) = [⟨true, vL eV A⟩] := rM_ne (vL_ne eV_len (by omega) ha)
    rw [rS_ne hn, hm, sl_row]
    show appK 3 24 _ (slK (some _) 0 A.length 3) _ _ K
    rw [sl_k, Nat.zero_add, if_pos (by show A.length * 3 ≤ (vL eV A).length; rw [e_len]; exact Nat.le_refl _), List.drop_zero, List.take_of_length_le (by show (vL eV A).length ≤ _; rw [e_len]; exact Nat.le_refl _)]
    by_cases hb : B = []
    · subst hb
      rw [vL_nil, rM_0, List.length_nil, rS_0, sl_0]
      have h2 := h1 [] (by simpa using ha) (by simp)
      rw [List.append_nil] at h2
      exact ⟨trivial, h2⟩
    · have hn2 : B.length ≠ 0 := fun e => hb (List.length_eq_zero_iff.1 e)
      have hm2 : rM (vL eV B) = [⟨true, vL eV B⟩] := rM_ne (vL_ne eV_len (by omega) hb)
      rw [rS_ne hn2, hm2, sl_row]
      show appK 3 24 _ _ (slK (some _) 0 B.length 3) _ K
      rw [sl_k, Nat.zero_add, if_pos (by show B.length * 3 ≤ (vL eV B).length; rw [e_len]; exact Nat.le_refl _), List.drop_zero, List.take_of_length_le (by show (vL eV B).length ≤ _; rw [e_len]; exact Nat.le_refl _)]
      have h2 := h1 [⟨false, []⟩, ⟨true, vL eV B⟩] (by simp [ha]) (by simp)
      unfold appK
      simp only [hn2, if_false]
      refine ⟨⟨?_, by rw [e_len], by rw [e_len], Nat.pos_of_ne_zero hn2, ones B, by unfold maxLen; omega, by omega⟩, ?_⟩
      · rw [g_row]
        exact ⟨⟨rfl, by show 0 + A.length * 3 ≤ (vL eV A).length; rw [e_len]; omega⟩, rfl⟩
      · rw [vL_app]
        simpa [k_row] using h2
theorem fit58i {J : Inp} {g : FuncId} {T : Bool → Bool → Bool} {es : List Ra.Ed} {e : Env} {m : Mem} (hJ : J.keep = 0) {i j : Nat} (hij : i ≠ j) (h1 : m[i]? = some ⟨true, vL eV es⟩) (h2 : m[j]? = some (mapO .bool [])) (e2 : e 2 = .fn g []) (e7 : e 7 = .row i 0 es.length 3) (e8 : e 8 = .v (.slice none 0 0)) (e9 : e 9 = .mp j) (e23 : e 23 = .row i 0 es.length 3) (e24 : e 24 = .v (.int .i64 (es.length : Int))) (e25 : e 25 = .v (.int .i64 0)) : @Fit J e m (L58 g T es 0 []) (M58 es [] []) := by
  refine ⟨[i, j, i], ?_, ?_, ?_, keep0 hJ⟩
  · have h3 : ¬ j = i := fun h => hij h.symm
    simp [M58, NdL, NdA, oO_nil, vL_nil, hij, h3]
  · simp only [M58, FitM, h1, h2]
    exact ⟨obV, obM (by simp [MLe]), .inl rfl, trivial⟩
  · simp only [L58, FitE, e2, e7, e8, e9, e23, e24, e25, List.length_nil, oV_0]
    simp [Le, LeL]
theorem c58_ok [I : Inp] {g : FuncId} {T : Bool → Bool → Bool} (hT : T false false = false) (hg : ∀ J : Inp, @Contract J Try.prog g true (trT T)) (g91 : (g = 91) = False) (g92 : (g = 92) = False) : Contract Try.prog 58 true (c58 g T) := by
  refine .readFf fn58 (G := fun J => @G58 J g T) (fun J => @g58 J _ _ (hg J)) _ fun args m k h => ?_
  obtain ⟨s1, s2, a, b, rfl, ha, hb, hna, hnb, hk⟩ := h
  refine ⟨by simp, fun J hJ us hus => ?_⟩
  obtain ⟨u, t1, rfl, hu1, u2, t2, rfl, hu2, u3, t3, rfl, hu3, rfl⟩ := hus
  obtain ⟨p, cc, rfl, hin⟩ := rdG_knows ha hu1
  obtain ⟨p', cc', rfl, hin'⟩ := rdG_knows hb hu2
  have e1 : ∀ (s : SV) (q : Option Addr) (n c : Nat), plF s (.slice q n c) = .v (.slice q n c) ∨ ∃ f, s = .fn f [] := fun s q n c => by
    unfold plF
    split
    · exact .inr ⟨_, rfl⟩
    · exact .inl rfl
  have es1 : plF s1 (.slice p a.length cc) = .v (.slice p a.length cc) := by
    rcases e1 s1 p a.length cc with h | ⟨f, rfl⟩
    · exact h
    · simp [rdG, slOf] at ha
  have es2 : plF s2 (.slice p' b.length cc') = .v (.slice p' b.length cc') := by
    rcases e1 s2 p' b.length cc' with h | ⟨f, rfl⟩
    · exact h
    · simp [rdG, slOf] at hb
  have es3 : plF (.fn g []) u3 = .fn g [] := rfl
  rw [List.zipWith_cons_cons, List.zipWith_cons_cons, List.zipWith_cons_cons, List.zipWith_nil_left, es1, es2, es3]
  simp (maxSteps := 2000000) -implicitDefEqProofs only [↓x58, ↓r58, ↓G58, g91, g92, ↓c91, s_alt, s_alt20, s_alt2t, s_alt2f, ↓s_loopi, ↓v_pq, ↓PRE, POST, CORE, Nat.reduceDiv, Nat.reduceMod, Int.reduceLT, Int.reduceLE, Int.reduceToNat, Int.reduceAdd, ↓reduceIte, Nat.reduceEqDiff, Nat.reduceAdd, Nat.reduceMul, Nat.reduceSub, Nat.reduceLeDiff, Nat.reduceLT, reduceCtorEq, if_true, eq_self, forall_const, implies_true]
  refine ⟨_, a, _, rfl, rdG_v hin, by omega, ?_⟩
  refine ⟨_, b, _, rfl, rdG_v hin', by omega, ?_⟩
  have hA := Ra.edges_len a false
  have hB := Ra.edges_len b true
  have hup : ∀ es : List Ra.Ed, es.Perm (Ra.edges a false ++ Ra.edges b true) → ∀ e ∈ es, -1 ≤ e.up ∧ e.up ≤ 1 := fun es hp e he => by
    rcases List.mem_append.1 (hp.mem_iff.1 he) with h | h
    · exact Ra.edges_up _ _ e h
    · exact Ra.edges_up _ _ e h
  have hln : ∀ es : List Ra.Ed, es.Perm (Ra.edges a false ++ Ra.edges b true) → es.length ≤ 100000 := fun es hp => by
    rw [hp.length_eq, List.length_append]; omega
  have hsw : ∀ es : List Ra.Ed, es.Perm (Ra.edges a false ++ Ra.edges b true) → (es.Pairwise fun x y => ¬ cmpE y x < 0) → Ra.sw T es es.length = Ra.swp T a b := fun es hp hs => by
    refine Ra.sw_swp hT hp (hs.imp fun {x y} h => ?_)
    rw [cmpE_neg] at h
    omega
  have hsl := Ra.swp_len T a b
  generalize hEA : Ra.edges a false = A at hA hup hln hsw ⊢
  generalize hEB : Ra.edges b true = B at hB hup hln hsw ⊢
  have fin : ∀ out m', out = Ra.swp T a b → (out ≠ [] → m'[2]? = some ⟨true, vL gV out⟩) → ∃ g2 s2 m2, NdL g2 m2 ∧ FitM g2 m' g2 m2 ∧ (∀ o : SObj, o ∈ m2 → o.own = true ∨ o.own = false ∧ o.cells = []) ∧ Le g2 s2 (oV 2 2 out.length) ∧ k (s2.up m.length) (m ++ m2.map (SObj.up m.length)) := fun out m' ho hm' => by
    subst ho
    refine fin_row gV_len (by omega) _ _ _ 2 (fun h => by rw [h]; rfl) (fun h => ⟨if_neg fun e => h (List.length_eq_zero_iff.1 e), hm' h⟩) hk
  have hO : ∀ out : List Ra.Rg, out ≠ [] → some (oO (vL gV out)) = some ⟨true, vL gV out⟩ := fun out h => by
    rw [oO_vL gV_len (by omega)]
    cases out with
    | nil => exact (h rfl).elim
    | cons r o => rfl
  refine app_e (by omega) (by omega) (fun h => ?_) (fun H hne hH => ?_)
  · refine .inr ⟨none, 0, rfl, ?_⟩
    simp (maxSteps := 2000000) -implicitDefEqProofs only [s_alt, s_alt20, s_alt2t, s_alt2f, ↓s_loopi, ↓v_pq, ↓PRE, POST, CORE, Nat.reduceDiv, Nat.reduceMod, Int.reduceLT, Int.reduceLE, Int.reduceToNat, Int.reduceAdd, ↓reduceIte, Nat.reduceEqDiff, Nat.reduceAdd, Nat.reduceMul, Nat.reduceSub, Nat.reduceLeDiff, Nat.reduceLT, reduceCtorEq, if_true, eq_self, forall_const, implies_true]
    refine TXi_of (TX_count (g0 _) 0 (fun x => [(8, .v (.slice none 0 0)), (24, .v (.int .i64 0)), (25, .v (.int .i64 0))]) (fun x => []) (fun _ => True) trivial ?_ (fun x hx _ => absurd hx (Nat.not_lt_zero x)) ?_)
    · exact (by refine ⟨[], by simp [NdL, NdA, oO_cells, oO_own, iL_nil], ?_, ?_, keep0 hJ⟩ <;> simp only [FitM, FitE, ObLe, LeL, Le, List.cons_append, List.nil_append] <;> (try (simp (maxSteps := 2000000) -implicitDefEqProofs only [s_alt, s_alt20, s_alt2t, s_alt2f, ↓s_loopi, ↓v_pq, ↓PRE, POST, CORE, Nat.reduceDiv, Nat.reduceMod, Int.reduceLT, Int.reduceLE, Int.reduceToNat, Int.reduceAdd, ↓reduceIte, Nat.reduceEqDiff, Nat.reduceAdd, Nat.reduceMul, Nat.reduceSub, Nat.reduceLeDiff, Nat.reduceLT, reduceCtorEq, if_true, eq_self, forall_const, implies_true])) <;> (try simp only [Sz.Le, Sz.LeL, List.getElem?_cons_zero, List.getElem?_cons_succ]) <;> (try simp))
    · intro _
      have hf := fin [] [] (by have := hsw [] (by rw [h]) (by simp); exact this) (fun h => (h rfl).elim)
      rw [List.length_nil, oV_0] at hf
      simp (maxSteps := 2000000) -implicitDefEqProofs only [s_alt, s_alt20, s_alt2t, s_alt2f, ↓s_loopi, ↓v_pq, ↓PRE, POST, CORE, Nat.reduceDiv, Nat.reduceMod, Int.reduceLT, Int.reduceLE, Int.reduceToNat, Int.reduceAdd, ↓reduceIte, Nat.reduceEqDiff, Nat.reduceAdd, Nat.reduceMul, Nat.reduceSub, Nat.reduceLeDiff, Nat.reduceLT, reduceCtorEq, if_true, eq_self, forall_const, implies_true]
      exact hf
  · rcases H with _ | ⟨o1, _ | ⟨o2, _ | ⟨o3, H⟩⟩⟩
    · refine .inl ⟨0, A ++ B, rfl, rfl, by rw [List.length_append]; omega, fun es hp hs => ?_⟩
      rw [← hp.length_eq]
      simp (maxSteps := 2000000) -implicitDefEqProofs only [s_alt, s_alt20, s_alt2t, s_alt2f, ↓s_loopi, ↓v_pq, ↓PRE, POST, CORE, Nat.reduceDiv, Nat.reduceMod, Int.reduceLT, Int.reduceLE, Int.reduceToNat, Int.reduceAdd, ↓reduceIte, Nat.reduceEqDiff, Nat.reduceAdd, Nat.reduceMul, Nat.reduceSub, Nat.reduceLeDiff, Nat.reduceLT, reduceCtorEq, if_true, eq_self, forall_const, implies_true]
      refine TXi_of (loop58 hJ (hg J) g91 g92 es (hup es hp) (hln es hp) (fit58i hJ (i := 0) (j := 1) (by omega) rfl rfl rfl rfl rfl rfl rfl rfl rfl) (fun ps hps => ?_))
      have j0 : ¬ (es.length : Int) < (es.length : Int) := by omega
      have hf := fin _ (M58 es ps (Ra.sw T es es.length)) (hsw es hp hs) (fun h => hO _ h)
      generalize Ra.sw T es es.length = out at hf ⊢
      unfold L58
      simp (maxSteps := 2000000) -implicitDefEqProofs only [↓body58, j0, s_alt, s_alt20, s_alt2t, s_alt2f, ↓s_loopi, ↓v_pq, ↓PRE, POST, CORE, Nat.reduceDiv, Nat.reduceMod, Int.reduceLT, Int.reduceLE, Int.reduceToNat, Int.reduceAdd, ↓reduceIte, Nat.reduceEqDiff, Nat.reduceAdd, Nat.reduceMul, Nat.reduceSub, Nat.reduceLeDiff, Nat.reduceLT, reduceCtorEq, if_true, eq_self, forall_const, implies_true]
      exact hf
    · refine .inl ⟨1, A ++ B, rfl, rfl, by rw [List.length_append]; omega, fun es hp hs => ?_⟩
      rw [← hp.length_eq]
      simp (maxSteps := 2000000) -implicitDefEqProofs only [s_alt, s_alt20, s_alt2t, s_alt2f, ↓s_loopi, ↓v_pq, ↓PRE, POST, CORE, Nat.reduceDiv, Nat.reduceMod, Int.reduceLT, Int.reduceLE, Int.reduceToNat, Int.reduceAdd, ↓reduceIte, Nat.reduceEqDiff, Nat.reduceAdd, Nat.reduceMul, Nat.reduceSub, Nat.reduceLeDiff, Nat.reduceLT, reduceCtorEq, if_true, eq_self, forall_const, implies_true]
      refine TXi_of (loop58 hJ (hg J) g91 g92 es (hup es hp) (hln es hp) (fit58i hJ (i := 1) (j := 2) (by omega) rfl rfl rfl rfl rfl rfl rfl rfl rfl) (fun ps hps => ?_))
      have j0 : ¬ (es.length : Int) < (es.length : Int) := by omega
      have hf := fin _ (M58 es ps (Ra.sw T es es.length)) (hsw es hp hs) (fun h => hO _ h)
      generalize Ra.sw T es es.length = out at hf ⊢
      unfold L58
      simp (maxSteps := 2000000) -implicitDefEqProofs only [↓body58, j0, s_alt, s_alt20, s_alt2t, s_alt2f, ↓s_loopi, ↓v_pq, ↓PRE, POST, CORE, Nat.reduceDiv, Nat.reduceMod, Int.reduceLT, Int.reduceLE, Int.reduceToNat, Int.reduceAdd, ↓reduceIte, Nat.reduceEqDiff, Nat.reduceAdd, Nat.reduceMul, Nat.reduceSub, Nat.reduceLeDiff, Nat.reduceLT, reduceCtorEq, if_true, eq_self, forall_const, implies_true]
      exact hf
    · refine .inl ⟨2, A ++ B, rfl, rfl, by rw [List.length_append]; omega, fun es hp hs => ?_⟩
      rw [← hp.length_eq]
      simp (maxSteps := 2000000) -implicitDefEqProofs only [s_alt, s_alt20, s_alt2t, s_alt2f, ↓s_loopi, ↓v_pq, ↓PRE, POST, CORE, Nat.reduceDiv, Nat.reduceMod, Int.reduceLT, Int.reduceLE, Int.reduceToNat, Int.reduceAdd, ↓reduceIte, Nat.reduceEqDiff, Nat.reduceAdd, Nat.reduceMul, Nat.reduceSub, Nat.reduceLeDiff, Nat.reduceLT, reduceCtorEq, if_true, eq_self, forall_const, implies_true]
      refine TXi_of (loop58 hJ (hg J) g91 g92 es (hup es hp) (hln es hp) (fit58i hJ (i := 2) (j := 3) (by omega) rfl rfl rfl rfl rfl rfl rfl rfl rfl) (fun ps hps => ?_))
      have j0 : ¬ (es.length : Int) < (es.length : Int) := by omega
      have hf := fin _ (M58 es ps (Ra.sw T es es.length)) (hsw es hp hs) (fun h => hO _ h)
      generalize Ra.sw T es es.length = out at hf ⊢
      unfold L58
      simp (maxSteps := 2000000) -implicitDefEqProofs only [↓body58, j0, s_alt, s_alt20, s_alt2t, s_alt2f, ↓s_loopi, ↓v_pq, ↓PRE, POST, CORE, Nat.reduceDiv, Nat.reduceMod, Int.reduceLT, Int.reduceLE, Int.reduceToNat, Int.reduceAdd, ↓reduceIte, Nat.reduceEqDiff, Nat.reduceAdd, Nat.reduceMul, Nat.reduceSub, Nat.reduceLeDiff, Nat.reduceLT, reduceCtorEq, if_true, eq_self, forall_const, implies_true]
      exact hf
    · simp at hH
end Rc
end Go.Proofs.Ytcejgadbpahbmaa
end
section
namespace Go.Proofs.Ytcejgadbpahbmaa
open Go.RowKit Sz
set_option maxHeartbeats 16000000
set_option maxRecDepth 20000
namespace Rc
-- almshouse/ranges.With (2 parameters)
def x26 : XC := (.seq (.tree (.seq ⟨some 4, none, (.ofA (.mv (.cst (.v (.slice none 0 0)))))⟩
 .done))
 (.seq (.tree (.seq ⟨some 5, none, (.ofA (.mv (.tmp 0)))⟩
 (.seq ⟨some 6, none, (.ofA (.mv (.tmp 1)))⟩
 (.seq ⟨some 7, none, (.call (.cst (.fn 58 [])) [(.tmp 5), (.tmp 6), (.cst (.fn 59 []))])⟩
 (.seq ⟨some 4, none, (.ofA (.mv (.tmp 7)))⟩
 .done)))))
 .ret))
def r26 : List XR := [.tmp 4]
theorem fn26 : FnX Try.prog 26 [92] 8 x26 r26 := ⟨_, Try.func26, by kernel_rfl, by kernel_rfl, by kernel_rfl, by kernel_rfl⟩
-- almshouse/ranges.But (2 parameters)
def x27 : XC := (.seq (.tree (.seq ⟨some 4, none, (.ofA (.mv (.cst (.v (.slice none 0 0)))))⟩
 .done))
 (.seq (.tree (.seq ⟨some 5, none, (.ofA (.mv (.tmp 0)))⟩
 (.seq ⟨some 6, none, (.ofA (.mv (.tmp 1)))⟩
 (.seq ⟨some 7, none, (.call (.cst (.fn 58 [])) [(.tmp 5), (.tmp 6), (.cst (.fn 60 []))])⟩
 (.seq ⟨some 4, none, (.ofA (.mv (.tmp 7)))⟩
 .done)))))
 .ret))
def r27 : List XR := [.tmp 4]
theorem fn27 : FnX Try.prog 27 [92] 8 x27 r27 := ⟨_, Try.func27, by kernel_rfl, by kernel_rfl, by kernel_rfl, by kernel_rfl⟩
-- almshouse/ranges.Both (2 parameters)
def x29 : XC := (.seq (.tree (.seq ⟨some 2, none, (.ofA (.mv (.cst (.v (.slice none 0 0)))))⟩
 .done))
 (.seq (.tree (.seq ⟨some 3, none, (.ofA (.mv (.tmp 0)))⟩
 (.seq ⟨some 4, none, (.call (.cst (.fn 26 [])) [(.tmp 3), (.cst (.v (.slice none 0 0)))])⟩
 (.seq ⟨some 2, none, (.ofA (.mv (.tmp 4)))⟩
 .done))))
 .ret))
def r29 : List XR := [.tmp 2]
theorem fn29 : FnX Try.prog 29 [92] 5 x29 r29 := ⟨_, Try.func29, by kernel_rfl, by kernel_rfl, by kernel_rfl, by kernel_rfl⟩
-- almshouse/ranges.Count (1 parameters)
def x24 : XC := (.seq (.tree (.seq ⟨some 2, none, (.ofA (.mv (.cst (.v (.int .i64 0)))))⟩
 .done))
 (.seq (.tree (.seq ⟨some 3, none, (.ofA (.mv (.cst (.v (.int .i64 0)))))⟩
 .done))
 (.seq (.seq (.tree (.seq ⟨some 6, none, (.ofA (.mv (.tmp 0)))⟩
 (.seq ⟨some 7, none, (.call (.cst (.fn 29 [])) [(.tmp 6)])⟩
 (.seq ⟨some 8, none, (.ofA (.len (.tmp 7)))⟩
 (.seq ⟨some 9, none, (.ofA (.mv (.cst (.v (.int .i64 0)))))⟩
 .done)))))
 (.block 0 (.loop (.seq (.tree (.seq ⟨some 10, none, (.ofA (.bin .lss (.tmp 9) (.tmp 8)))⟩
 .done))
 (.seq (.cond (.tmp 10)
 .skip
 (.exit 0))
 (.seq (.block 1 (.seq (.tree (.seq ⟨some 11, none, (.ofA (.isl 2 (.tmp 7) (.tmp 9)))⟩
 (.seq ⟨some 12, none, (.ofA (.load (some 2) (.tmp 11)))⟩
 (.seq ⟨some 5, none, (.alloc [(.v (.int .i64 0)), (.v (.int .i64 0))])⟩
 (.seq ⟨none, none, (.store 2 (.tmp 5) (.tmp 12))⟩
 .done)))))
 (.tree (.seq ⟨some 13, none, (.ofA (.mv (.tmp 3)))⟩
 (.seq ⟨some 14, none, (.ofA (.faddr 1 (.tmp 5)))⟩
 (.seq ⟨some 15, none, (.ofA (.load none (.tmp 14)))⟩
 (.seq ⟨some 16, none, (.ofA (.faddr 0 (.tmp 5)))⟩
 (.seq ⟨some 17, none, (.ofA (.load none (.tmp 16)))⟩
 (.seq ⟨some 18, none, (.ofA (.bin .sub (.tmp 15) (.tmp 17)))⟩
 (.seq ⟨some 19, none, (.ofA (.bin .add (.tmp 13) (.tmp 18)))⟩
 (.seq ⟨some 3, none, (.ofA (.mv (.tmp 19)))⟩
 .done)))))))))))
 (.tree (.seq ⟨some 20, none, (.ofA (.bin .add (.tmp 9) (.cst (.v (.int .i64 1)))))⟩
 (.seq ⟨some 9, none, (.ofA (.mv (.tmp 20)))⟩
 .done)))))))))
 (.seq (.tree (.seq ⟨some 21, none, (.ofA (.mv (.tmp 3)))⟩
 (.seq ⟨some 2, none, (.ofA (.mv (.tmp 21)))⟩
 .done)))
 .ret))))
def r24 : List XR := [.tmp 2]
theorem fn24 : FnX Try.prog 24 [92] 22 x24 r24 := ⟨_, Try.func24, by kernel_rfl, by kernel_rfl, by kernel_rfl, by kernel_rfl⟩
def cMix [Inp] (T : Bool → Bool → Bool) : Trans := fun args m k => ∃ (s1 s2 : SV) (a b : List Ra.Rg), args = [s1, s2] ∧ rdG m s1 = some a ∧ rdG m s2 = some b ∧ a.length ≤ 10000 ∧ b.length ≤ 10000 ∧ k (rS m.length 2 (Ra.swp T a b).length) (m ++ rM (vL gV (Ra.swp T a b)))
theorem s58_59 [Inp] : GOk Try.prog [⟨58, true, c58 59 Ra.tOr⟩] := GOk.cons (c58_ok rfl (fun J => @c59_ok J) (by simp) (by simp)) (g0 _)
theorem s58_60 [Inp] : GOk Try.prog [⟨58, true, c58 60 Ra.tBut⟩] := GOk.cons (c58_ok rfl (fun J => @c60_ok J) (by simp) (by simp)) (g0 _)
theorem fin_g {k : SV → Mem → Prop} {m : Mem} (L : List Ra.Rg) (h3 : k (rS m.length 2 L.length) (m ++ rM (vL gV L))) : ∃ (g2 : List Nat) (s2 : SV) (m2 : Mem), NdL g2 m2 ∧ FitM g2 (rM (vL gV L)) g2 m2 ∧ (∀ o ∈ m2, o.own = true ∨ (o.own = false ∧ o.cells = [])) ∧ Le g2 s2 (rS 0 2 L.length) ∧ k (s2.up m.length) (m ++ m2.map (SObj.up m.length)) :=
  fin_row gV_len (by omega) _ _ _ 0 (fun h => by rw [h]; rfl) (fun h => ⟨rS_ne (fun e => h (List.length_eq_zero_iff.1 e)), rM_at gV_len (by omega) h⟩) h3
theorem c26_ok [I : Inp] : Contract Try.prog 26 true (cMix Ra.tOr) := by
  refine .readF3 fn26 (G := fun J => [⟨58, true, @c58 J 59 Ra.tOr⟩]) (fun J => @s58_59 J) _ fun args m k h => ?_
  obtain ⟨s1, s2, a, b, rfl, ha, hb, hna, hnb, hk⟩ := h
  refine ⟨by simp, fun J hJ us hus => ?_⟩
  obtain ⟨u, t1, rfl, hu1, u2, t2, rfl, hu2, rfl⟩ := hus
  obtain ⟨p, cc, rfl, hin⟩ := rdG_knows ha hu1
  obtain ⟨p', cc', rfl, hin'⟩ := rdG_knows hb hu2
  rw [List.map_cons, List.map_cons, List.map_nil, of_sl, of_sl]
  simp (maxSteps := 2000000) -implicitDefEqProofs only [↓x26, ↓r26, ↓c58, s_alt, s_alt20, s_alt2t, s_alt2f, ↓s_loopi, ↓v_pq, ↓PRE, POST, CORE, Nat.reduceDiv, Nat.reduceMod, Int.reduceLT, Int.reduceLE, Int.reduceToNat, Int.reduceAdd, ↓reduceIte, Nat.reduceEqDiff, Nat.reduceAdd, Nat.reduceMul, Nat.reduceSub, Nat.reduceLeDiff, Nat.reduceLT, reduceCtorEq, if_true, eq_self, forall_const, implies_true]
  exact ⟨_, _, a, b, rfl, rdG_v hin, rdG_v hin', hna, hnb, fin_g _ hk⟩
theorem c27_ok [I : Inp] : Contract Try.prog 27 true (cMix Ra.tBut) := by
  refine .readF3 fn27 (G := fun J => [⟨58, true, @c58 J 60 Ra.tBut⟩]) (fun J => @s58_60 J) _ fun args m k h => ?_
  obtain ⟨s1, s2, a, b, rfl, ha, hb, hna, hnb, hk⟩ := h
  refine ⟨by simp, fun J hJ us hus => ?_⟩
  obtain ⟨u, t1, rfl, hu1, u2, t2, rfl, hu2, rfl⟩ := hus
  obtain ⟨p, cc, rfl, hin⟩ := rdG_knows ha hu1
  obtain ⟨p', cc', rfl, hin'⟩ := rdG_knows hb hu2
  rw [List.map_cons, List.map_cons, List.map_nil, of_sl, of_sl]
  simp (maxSteps := 2000000) -implicitDefEqProofs only [↓x27, ↓r27, ↓c58, s_alt, s_alt20, s_alt2t, s_alt2f, ↓s_loopi, ↓v_pq, ↓PRE, POST, CORE, Nat.reduceDiv, Nat.reduceMod, Int.reduceLT, Int.reduceLE, Int.reduceToNat, Int.reduceAdd, ↓reduceIte, Nat.reduceEqDiff, Nat.reduceAdd, Nat.reduceMul, Nat.reduceSub, Nat.reduceLeDiff, Nat.reduceLT, reduceCtorEq, if_true, eq_self, forall_const, implies_true]
  exact ⟨_, _, a, b, rfl, rdG_v hin, rdG_v hin', hna, hnb, fin_g _ hk⟩
def setG (l : List Ra.Rg) : List Ra.Rg := Ra.swp Ra.tOr l []
def c29 [Inp] : Trans := fun args m k => ∃ (s : SV) (l : List Ra.Rg), args = [s] ∧ rdG m s = some l ∧ l.length ≤ 10000 ∧ k (rS m.length 2 (setG l).length) (m ++ rM (vL gV (setG l)))
theorem s26 [Inp] : GOk Try.prog [⟨26, true, cMix Ra.tOr⟩] := GOk.cons c26_ok (g0 _)
theorem c29_ok [I : Inp] : Contract Try.prog 29 true c29 := by
  refine .readF3 fn29 (G := fun J => [⟨26, true, @cMix J Ra.tOr⟩]) (fun J => @s26 J) _ fun args m k h => ?_
  obtain ⟨s, l, rfl, hl, hmax, hk⟩ := h
  refine ⟨by simp, fun J hJ us hus => ?_⟩
  obtain ⟨u, t1, rfl, hu1, rfl⟩ := hus
  obtain ⟨p, cc, rfl, hin⟩ := rdG_knows hl hu1
  rw [List.map_cons, List.map_nil, of_sl]
  simp (maxSteps := 2000000) -implicitDefEqProofs only [↓x29, ↓r29, ↓cMix, s_alt, s_alt20, s_alt2t, s_alt2f, ↓s_loopi, ↓v_pq, ↓PRE, POST, CORE, Nat.reduceDiv, Nat.reduceMod, Int.reduceLT, Int.reduceLE, Int.reduceToNat, Int.reduceAdd, ↓reduceIte, Nat.reduceEqDiff, Nat.reduceAdd, Nat.reduceMul, Nat.reduceSub, Nat.reduceLeDiff, Nat.reduceLT, reduceCtorEq, if_true, eq_self, forall_const, implies_true]
  exact ⟨_, _, l, [], rfl, rdG_v hin, rdG_nil, hmax, by simp, fin_g _ hk⟩
theorem setG_len (l : List Ra.Rg) : (setG l).length ≤ 2 * l.length := by
  have := Ra.swp_len Ra.tOr l []
  unfold setG
  simpa using this
def c24 [Inp] : Trans := fun args m k => ∃ (s : SV) (l : List Ra.Rg), args = [s] ∧ rdG m s = some l ∧ l.length ≤ 10000 ∧ k (.v (.int .i64 (Ra.lenS (setG l)))) m
theorem s29 [Inp] : GOk Try.prog [⟨29, true, c29⟩] := GOk.cons c29_ok (g0 _)
theorem wsum (a x y : Int) : IntKind.i64.wrap (IntKind.i64.wrap a + IntKind.i64.wrap (y - x)) = IntKind.i64.wrap (a + (y - x)) := by
  rw [IntKind.wrap_i64, IntKind.wrap_i64, IntKind.wrap_i64, IntKind.wrap_i64]
  omega
theorem lenS_snoc (L : List Ra.Rg) (r : Ra.Rg) : Ra.lenS (L ++ [r]) = Ra.lenS L + (r.to - r.fr) := by simp [Ra.lenS]
theorem c24_ok [I : Inp] : Contract Try.prog 24 true c24 := by
  refine .read fn24 (G := fun J => [⟨29, true, @c29 J⟩]) (fun J => @s29 J) _ fun args m k h => ?_
  obtain ⟨s, l, rfl, hl, hmax, hk⟩ := h
  refine ⟨by simp, fun J hJ us hus => ?_⟩
  obtain ⟨u, t1, rfl, hu1, rfl⟩ := hus
  obtain ⟨p, cc, rfl, hin⟩ := rdG_knows hl hu1
  rw [List.map_cons, List.map_nil, of_sl]
  simp (maxSteps := 2000000) -implicitDefEqProofs only [↓x24, ↓r24, ↓c29, s_alt, s_alt20, s_alt2t, s_alt2f, ↓s_loopi, ↓v_pq, ↓PRE, POST, CORE, Nat.reduceDiv, Nat.reduceMod, Int.reduceLT, Int.reduceLE, Int.reduceToNat, Int.reduceAdd, ↓reduceIte, Nat.reduceEqDiff, Nat.reduceAdd, Nat.reduceMul, Nat.reduceSub, Nat.reduceLeDiff, Nat.reduceLT, reduceCtorEq, if_true, eq_self, forall_const, implies_true]
  refine ⟨_, l, rfl, rdG_v hin, hmax, ?_⟩
  have hset : Ra.isSet Ra.tOr l [] (setG l) := Ra.swp_set rfl l []
  have hlen := setG_len l
  have hin2 := Ra.lenS_in hset.2.1 hset.1
  generalize setG l = S at hlen hk hin2 ⊢
  clear hset
  simp (maxSteps := 2000000) -implicitDefEqProofs only [s_len, s_alt, s_alt20, s_alt2t, s_alt2f, ↓s_loopi, ↓v_pq, ↓PRE, POST, CORE, Nat.reduceDiv, Nat.reduceMod, Int.reduceLT, Int.reduceLE, Int.reduceToNat, Int.reduceAdd, ↓reduceIte, Nat.reduceEqDiff, Nat.reduceAdd, Nat.reduceMul, Nat.reduceSub, Nat.reduceLeDiff, Nat.reduceLT, reduceCtorEq, if_true, eq_self, forall_const, implies_true]
  refine TXi_of (TX_count (@s29 J) S.length (fun x => [(3, .v (.int .i64 (IntKind.i64.wrap (Ra.lenS (S.take x))))), (7, rS 0 2 S.length), (8, .v (.int .i64 (S.length : Int))), (9, .v (.int .i64 (x : Int)))]) (fun x => rM (vL gV S)) (fun x => True) trivial ?_ ?_ ?_)
  · have e0 : IntKind.i64.wrap (Ra.lenS (S.take 0)) = 0 := rfl
    rw [e0]
    by_cases h0 : S = []
    · rw [h0, vL_nil, rM_0, List.length_nil, rS_0]
      exact (by refine ⟨[], by simp [NdL, NdA, oO_cells, oO_own, iL_nil], ?_, ?_, keep0 hJ⟩ <;> simp only [FitM, FitE, ObLe, LeL, Le, List.cons_append, List.nil_append] <;> (try (simp (maxSteps := 2000000) -implicitDefEqProofs only [s_alt, s_alt20, s_alt2t, s_alt2f, ↓s_loopi, ↓v_pq, ↓PRE, POST, CORE, Nat.reduceDiv, Nat.reduceMod, Int.reduceLT, Int.reduceLE, Int.reduceToNat, Int.reduceAdd, ↓reduceIte, Nat.reduceEqDiff, Nat.reduceAdd, Nat.reduceMul, Nat.reduceSub, Nat.reduceLeDiff, Nat.reduceLT, reduceCtorEq, if_true, eq_self, forall_const, implies_true])) <;> (try simp only [Sz.Le, Sz.LeL, List.getElem?_cons_zero, List.getElem?_cons_succ]) <;> (try simp))
    · rw [rM_ne (vL_ne gV_len (by omega) h0), rS_ne (fun e => h0 (List.length_eq_zero_iff.1 e))]
      exact (by refine ⟨[0], by simp [NdL, NdA, oO_cells, oO_own, iL_nil], ?_, ?_, keep0 hJ⟩ <;> simp only [FitM, FitE, ObLe, LeL, Le, List.cons_append, List.nil_append] <;> (try (simp (maxSteps := 2000000) -implicitDefEqProofs only [vL_le, s_alt, s_alt20, s_alt2t, s_alt2f, ↓s_loopi, ↓v_pq, ↓PRE, POST, CORE, Nat.reduceDiv, Nat.reduceMod, Int.reduceLT, Int.reduceLE, Int.reduceToNat, Int.reduceAdd, ↓reduceIte, Nat.reduceEqDiff, Nat.reduceAdd, Nat.reduceMul, Nat.reduceSub, Nat.reduceLeDiff, Nat.reduceLT, reduceCtorEq, if_true, eq_self, forall_const, implies_true])) <;> (try simp only [Sz.Le, Sz.LeL, List.getElem?_cons_zero, List.getElem?_cons_succ]) <;> (try simp))
  · intro x hx _
    obtain ⟨r, hr⟩ : ∃ r, S[x]? = some r := ⟨_, List.getElem?_eq_getElem hx⟩
    have f2 : ((vL gV S).drop (x * 2)).take 2 = [.v (.int .i64 r.fr), .v (.int .i64 r.to)] := vL_item gV_len hr
    have i0 : (0 : Int) ≤ (x : Int) := by omega
    have i1 : (x : Int) < (S.length : Int) := by omega
    have w1 : IntKind.i64.wrap ((x : Int) + 1) = (x : Int) + 1 := Sz.w_64 (by omega) (by omega)
    have w2 := wsum (Ra.lenS (S.take x)) r.fr r.to
    rw [← lenS_snoc, ← take_snoc hr] at w2
    have h0 : S ≠ [] := fun e => by rw [e] at hx; simp at hx
    have hl : x * 2 + 2 ≤ (vL gV S).length := by rw [g_len]; omega
    have hle : ∀ g, LeL g (vL gV S) (vL gV S) = True := fun g => vL_le
    rw [rM_ne (vL_ne gV_len (by omega) h0), rS_ne (fun e => h0 (List.length_eq_zero_iff.1 e))]
    simp (maxSteps := 2000000) -implicitDefEqProofs only [i0, i1, f2, hl, w1, w2, s_alt, s_alt20, s_alt2t, s_alt2f, ↓s_loopi, ↓v_pq, ↓PRE, POST, CORE, Nat.reduceDiv, Nat.reduceMod, Int.reduceLT, Int.reduceLE, Int.reduceToNat, Int.reduceAdd, ↓reduceIte, Nat.reduceEqDiff, Nat.reduceAdd, Nat.reduceMul, Nat.reduceSub, Nat.reduceLeDiff, Nat.reduceLT, reduceCtorEq, if_true, eq_self, forall_const, implies_true]
    exact (by refine ⟨[0], by simp [NdL, NdA, oO_cells, oO_own, iL_nil], ?_, ?_, keep0 hJ⟩ <;> simp only [FitM, FitE, ObLe, LeL, Le, List.cons_append, List.nil_append] <;> (try (simp (maxSteps := 2000000) -implicitDefEqProofs only [hle, s_alt, s_alt20, s_alt2t, s_alt2f, ↓s_loopi, ↓v_pq, ↓PRE, POST, CORE, Nat.reduceDiv, Nat.reduceMod, Int.reduceLT, Int.reduceLE, Int.reduceToNat, Int.reduceAdd, ↓reduceIte, Nat.reduceEqDiff, Nat.reduceAdd, Nat.reduceMul, Nat.reduceSub, Nat.reduceLeDiff, Nat.reduceLT, reduceCtorEq, if_true, eq_self, forall_const, implies_true])) <;> (try simp only [Sz.Le, Sz.LeL, List.getElem?_cons_zero, List.getElem?_cons_succ]) <;> (try simp))
  · intro _
    have j0 : ¬ (S.length : Int) < (S.length : Int) := by omega
    have w2 : IntKind.i64.wrap (Ra.lenS S) = Ra.lenS S := Sz.w_64 (by unfold Ra.Mx at hin2; omega) (by unfold Ra.Mx at hin2; omega)
    rw [List.take_length, w2]
    simp (maxSteps := 2000000) -implicitDefEqProofs only [j0, s_alt, s_alt20, s_alt2t, s_alt2f, ↓s_loopi, ↓v_pq, ↓PRE, POST, CORE, Nat.reduceDiv, Nat.reduceMod, Int.reduceLT, Int.reduceLE, Int.reduceToNat, Int.reduceAdd, ↓reduceIte, Nat.reduceEqDiff, Nat.reduceAdd, Nat.reduceMul, Nat.reduceSub, Nat.reduceLeDiff, Nat.reduceLT, reduceCtorEq, if_true, eq_self, forall_const, implies_true]
    exact hk
end Rc
end Go.Proofs.Ytcejgadbpahbmaa
end
section
namespace Go.Proofs.Ytcejgadbpahbmaa
open Go.RowKit Sz
set_option maxHeartbeats 16000000
set_option maxRecDepth 20000
namespace Rc
-- almshouse/ranges.Has$1 (1 parameters)
def x88 : XC := (.seq (.tree (.seq ⟨some 2, none, (.box (.tmp 0))⟩
 (.seq ⟨some 3, none, (.ofA (.mv (.cst (.v (.bool false)))))⟩
 .done)))
 (.seq (.tree (.take ⟨some 4, none, (.ofA (.faddr 0 (.tmp 2)))⟩
 (.take ⟨some 5, none, (.ofA (.load none (.tmp 4)))⟩
 (.take ⟨some 7, none, (.ofA (.load none (.tmp 1)))⟩
 (.act true [(⟨some 6, none, (.call (.cst (.fn 89 [])) [(.tmp 5)])⟩,
 (.take ⟨some 8, none, (.ofA (.bin .leq (.tmp 6) (.tmp 7)))⟩
 (.take ⟨some 9, none, (.ofA (.mv (.tmp 8)))⟩
 (.take ⟨some 10, some (9, true), (.ofA (.load none (.tmp 1)))⟩
 (.take ⟨some 11, some (9, true), (.ofA (.faddr 1 (.tmp 2)))⟩
 (.take ⟨some 12, some (9, true), (.ofA (.load none (.tmp 11)))⟩
 (.act true [(⟨some 13, some (9, true), (.call (.cst (.fn 89 [])) [(.tmp 12)])⟩,
 (.take ⟨some 14, some (9, true), (.ofA (.bin .lss (.tmp 10) (.tmp 13)))⟩
 (.take ⟨some 15, none, (.ofA (.pick (.tmp 9) (.tmp 14) (.cst (.v (.bool false)))))⟩
 (.take ⟨some 3, none, (.ofA (.mv (.tmp 15)))⟩
 .done))))])))))))])))))
 .ret))
def r88 : List XR := [.tmp 3]
theorem fn88 : FnX Try.prog 88 [92] 16 x88 r88 := ⟨_, Try.func88, by kernel_rfl, by kernel_rfl, by kernel_rfl, by kernel_rfl⟩
-- slices.IndexFunc[[]almshouse/ranges.Range,almshouse/ranges.Range] (2 parameters)
def x111 : XC := (.seq (.tree (.seq ⟨some 4, none, (.ofA (.mv (.cst (.v (.int .i64 0)))))⟩
 .done))
 (.seq (.seq (.tree (.seq ⟨some 6, none, (.ofA (.mv (.tmp 0)))⟩
 (.seq ⟨some 7, none, (.ofA (.len (.tmp 6)))⟩
 (.seq ⟨some 8, none, (.ofA (.mv (.cst (.v (.int .i64 0)))))⟩
 .done))))
 (.block 0 (.loop (.seq (.tree (.seq ⟨some 9, none, (.ofA (.bin .lss (.tmp 8) (.tmp 7)))⟩
 .done))
 (.seq (.cond (.tmp 9)
 .skip
 (.exit 0))
 (.seq (.block 1 (.seq (.tree (.seq ⟨some 10, none, (.ofA (.mv (.tmp 8)))⟩
 (.seq ⟨some 5, none, (.ofA (.mv (.tmp 10)))⟩
 .done)))
 (.seq (.tree (.seq ⟨some 11, none, (.ofA (.mv (.tmp 1)))⟩
 (.seq ⟨some 12, none, (.ofA (.mv (.tmp 0)))⟩
 (.seq ⟨some 13, none, (.ofA (.mv (.tmp 5)))⟩
 (.seq ⟨some 14, none, (.ofA (.isl 2 (.tmp 12) (.tmp 13)))⟩
 (.seq ⟨some 15, none, (.ofA (.load (some 2) (.tmp 14)))⟩
 (.seq ⟨some 16, none, (.call (.tmp 11) [(.tmp 15)])⟩
 .done)))))))
 (.cond (.tmp 16)
 (.seq (.tree (.seq ⟨some 17, none, (.ofA (.mv (.tmp 5)))⟩
 (.seq ⟨some 4, none, (.ofA (.mv (.tmp 17)))⟩
 .done)))
 .ret)
 .skip))))
 (.tree (.seq ⟨some 18, none, (.ofA (.bin .add (.tmp 8) (.cst (.v (.int .i64 1)))))⟩
 (.seq ⟨some 8, none, (.ofA (.mv (.tmp 18)))⟩
 .done)))))))))
 (.seq (.tree (.seq ⟨some 4, none, (.ofA (.mv (.cst (.v (.int .i64 (-1))))))⟩
 .done))
 .ret)))
def r111 : List XR := [.tmp 4]
theorem fn111 : FnX Try.prog 111 [92] 19 x111 r111 := ⟨_, Try.func111, by kernel_rfl, by kernel_rfl, by kernel_rfl, by kernel_rfl⟩
-- slices.ContainsFunc[[]almshouse/ranges.Range,almshouse/ranges.Range] (2 parameters)
def x87 : XC := (.seq (.tree (.seq ⟨some 4, none, (.ofA (.mv (.cst (.v (.bool false)))))⟩
 .done))
 (.seq (.tree (.seq ⟨some 5, none, (.ofA (.mv (.tmp 0)))⟩
 (.seq ⟨some 6, none, (.ofA (.mv (.tmp 1)))⟩
 (.seq ⟨some 7, none, (.call (.cst (.fn 111 [])) [(.tmp 5), (.tmp 6)])⟩
 (.seq ⟨some 8, none, (.ofA (.bin .geq (.tmp 7) (.cst (.v (.int .i64 0)))))⟩
 (.seq ⟨some 4, none, (.ofA (.mv (.tmp 8)))⟩
 .done))))))
 .ret))
def r87 : List XR := [.tmp 4]
theorem fn87 : FnX Try.prog 87 [92] 9 x87 r87 := ⟨_, Try.func87, by kernel_rfl, by kernel_rfl, by kernel_rfl, by kernel_rfl⟩
-- almshouse/ranges.Has (2 parameters)
def x54 : XC := (.seq (.tree (.seq ⟨some 3, none, (.box (.tmp 1))⟩
 (.seq ⟨some 4, none, (.ofA (.mv (.cst (.v (.bool false)))))⟩
 .done)))
 (.seq (.tree (.seq ⟨some 5, none, (.ofA (.mv (.tmp 0)))⟩
 (.seq ⟨some 6, none, (.ofA (.mkfn 88 [(.tmp 3)]))⟩
 (.seq ⟨some 7, none, (.call (.cst (.fn 87 [])) [(.tmp 5), (.tmp 6)])⟩
 (.seq ⟨some 4, none, (.ofA (.mv (.tmp 7)))⟩
 .done)))))
 .ret))
def r54 : List XR := [.tmp 4]
theorem fn54 : FnX Try.prog 54 [92] 8 x54 r54 := ⟨_, Try.func54, by kernel_rfl, by kernel_rfl, by kernel_rfl, by kernel_rfl⟩
-- almshouse/ranges.Of (1 parameters)
def x55 : XC := (.seq (.tree (.seq ⟨some 2, none, (.ofA (.mv (.cst (.v (.slice none 0 0)))))⟩
 .done))
 (.seq (.tree (.seq ⟨some 3, none, (.ofA (.mv (.cst (.v (.slice none 0 0)))))⟩
 .done))
 (.seq (.seq (.tree (.seq ⟨some 6, none, (.ofA (.mv (.tmp 0)))⟩
 (.seq ⟨some 7, none, (.ofA (.len (.tmp 6)))⟩
 (.seq ⟨some 8, none, (.ofA (.mv (.cst (.v (.int .i64 0)))))⟩
 .done))))
 (.block 0 (.loop (.seq (.tree (.seq ⟨some 9, none, (.ofA (.bin .lss (.tmp 8) (.tmp 7)))⟩
 .done))
 (.seq (.cond (.tmp 9)
 .skip
 (.exit 0))
 (.seq (.block 1 (.seq (.tree (.seq ⟨some 10, none, (.ofA (.isl 1 (.tmp 6) (.tmp 8)))⟩
 (.seq ⟨some 11, none, (.ofA (.load none (.tmp 10)))⟩
 (.seq ⟨some 5, none, (.ofA (.mv (.tmp 11)))⟩
 .done))))
 (.seq (.tree (.seq ⟨some 12, none, (.ofA (.mv (.tmp 5)))⟩
 (.seq ⟨some 13, none, (.call (.cst (.fn 89 [])) [(.tmp 12)])⟩
 (.seq ⟨some 14, none, (.ofA (.mx false (.tmp 13) [(.cst (.v (.int .i64 1099511627775)))]))⟩
 (.seq ⟨some 5, none, (.ofA (.mv (.tmp 14)))⟩
 .done)))))
 (.tree (.seq ⟨some 15, none, (.ofA (.mv (.tmp 3)))⟩
 (.seq ⟨some 16, none, (.ofA (.mv (.tmp 5)))⟩
 (.seq ⟨some 17, none, (.ofA (.mv (.tmp 5)))⟩
 (.seq ⟨some 18, none, (.ofA (.bin .add (.tmp 17) (.cst (.v (.int .i64 1)))))⟩
 (.seq ⟨some 19, none, (.build [(.v (.int .i64 0)), (.v (.int .i64 0))] [(0, 1, (.tmp 16)), (1, 1, (.tmp 18))])⟩
 (.seq ⟨some 20, none, (.buildSl 2 1 [(.v (.int .i64 0)), (.v (.int .i64 0))] [(0, 2, (.tmp 19))])⟩
 (.seq ⟨some 21, none, (.app 2 16 (.tmp 15) (.tmp 20))⟩
 (.seq ⟨some 3, none, (.ofA (.mv (.tmp 21)))⟩
 .done))))))))))))
 (.tree (.seq ⟨some 22, none, (.ofA (.bin .add (.tmp 8) (.cst (.v (.int .i64 1)))))⟩
 (.seq ⟨some 8, none, (.ofA (.mv (.tmp 22)))⟩
 .done)))))))))
 (.seq (.tree (.seq ⟨some 23, none, (.ofA (.mv (.tmp 3)))⟩
 (.seq ⟨some 24, none, (.call (.cst (.fn 29 [])) [(.tmp 23)])⟩
 (.seq ⟨some 2, none, (.ofA (.mv (.tmp 24)))⟩
 .done))))
 .ret))))
def r55 : List XR := [.tmp 2]
theorem fn55 : FnX Try.prog 55 [92] 25 x55 r55 := ⟨_, Try.func55, by kernel_rfl, by kernel_rfl, by kernel_rfl, by kernel_rfl⟩
def c88 [Inp] : Trans := fun args m k => ∃ (r : Ra.Rg) (n : Int) (j : Nat) (o : Bool), args = [.agg [.v (.int .i64 r.fr), .v (.int .i64 r.to)], .ptr j 0] ∧ m[j]? = some ⟨o, [.v (.int .i64 n)]⟩ ∧ k (.v (.bool (Ra.hit r n))) m
theorem s89 [Inp] : GOk Try.prog [⟨89, true, c89⟩] := GOk.cons c89_ok (g0 _)
theorem c88_ok [I : Inp] : Contract Try.prog 88 true c88 := by
  refine .plain fn88 s89 _ fun args m k h => ?_
  obtain ⟨r, n, j, o, rfl, hj, hk⟩ := h
  refine ⟨[j], [⟨false, [.v (.int .i64 n)]⟩], [.agg [.v (.int .i64 r.fr), .v (.int .i64 r.to)], .ptr 0 0], by simp, by simp [FitM, hj, ObLe, LeL, Le], by simp, by simp [LeL, Le], by simp, ?_⟩
  have hh : Ra.hit r n = (decide (Ra.clamp r.fr ≤ n) && decide (n < Ra.clamp r.to)) := rfl
  rw [hh] at hk
  by_cases h1 : Ra.clamp r.fr ≤ n
  · simp only [h1, decide_true, Bool.true_and] at hk
    simp (maxSteps := 2000000) -implicitDefEqProofs only [↓x88, ↓r88, ↓a89, h1, s_alt, s_alt20, s_alt2t, s_alt2f, ↓s_loopi, ↓v_pq, ↓PRE, POST, CORE, Nat.reduceDiv, Nat.reduceMod, Int.reduceLT, Int.reduceLE, Int.reduceToNat, Int.reduceAdd, ↓reduceIte, Nat.reduceEqDiff, Nat.reduceAdd, Nat.reduceMul, Nat.reduceSub, Nat.reduceLeDiff, Nat.reduceLT, reduceCtorEq, if_true, eq_self, forall_const, implies_true]
    exact hk
  · simp only [h1, decide_false, Bool.false_and] at hk
    simp (maxSteps := 2000000) -implicitDefEqProofs only [↓x88, ↓r88, ↓a89, h1, s_alt, s_alt20, s_alt2t, s_alt2f, ↓s_loopi, ↓v_pq, ↓PRE, POST, CORE, Nat.reduceDiv, Nat.reduceMod, Int.reduceLT, Int.reduceLE, Int.reduceToNat, Int.reduceAdd, ↓reduceIte, Nat.reduceEqDiff, Nat.reduceAdd, Nat.reduceMul, Nat.reduceSub, Nat.reduceLeDiff, Nat.reduceLT, reduceCtorEq, if_true, eq_self, forall_const, implies_true]
    exact hk
def c111 [Inp] : Trans := fun args m k => ∃ (l : List Ra.Rg) (n : Int) (j : Nat) (o : Bool) (p : Option Addr) (c : Nat), args = [.v (.slice p l.length c), .fn 88 [.ptr j 0]] ∧ inpL p (l.length * 2) = some (rowV gV l) ∧ l.length ≤ 100000 ∧ m[j]? = some ⟨o, [.v (.int .i64 n)]⟩ ∧ ∀ i : Int, (decide (0 ≤ i) = l.any fun r => Ra.hit r n) → k (.v (.int .i64 i)) m
theorem s88 [Inp] : GOk Try.prog [⟨88, true, c88⟩] := GOk.cons c88_ok (g0 _)
theorem c111_ok [I : Inp] : Contract Try.prog 111 true c111 := by
  refine .plain0 fn111 (G := fun J => [⟨88, true, @c88 J⟩]) (fun J => @s88 J) _ fun args m k h => ?_
  obtain ⟨l, n, j, o, p, c, rfl, hin, hmax, hj, hk⟩ := h
  refine ⟨[j], [⟨false, [.v (.int .i64 n)]⟩], [.v (.slice p l.length c), .fn 88 [.ptr 0 0]], by simp, by simp [FitM, hj, ObLe, LeL, Le], by simp, by simp [LeL, Le], by simp, fun J hJ hI => ?_⟩
  replace hin := hI _ _ _ hin
  simp (maxSteps := 2000000) -implicitDefEqProofs only [↓x111, ↓r111, s_alt, s_alt20, s_alt2t, s_alt2f, ↓s_loopi, ↓v_pq, ↓PRE, POST, CORE, Nat.reduceDiv, Nat.reduceMod, Int.reduceLT, Int.reduceLE, Int.reduceToNat, Int.reduceAdd, ↓reduceIte, Nat.reduceEqDiff, Nat.reduceAdd, Nat.reduceMul, Nat.reduceSub, Nat.reduceLeDiff, Nat.reduceLT, reduceCtorEq, if_true, eq_self, forall_const, implies_true]
  refine TXi_of (TX_count (@s88 J) l.length (fun x => [(0, .v (.slice p l.length c)), (1, .fn 88 [.ptr 0 0]), (6, .v (.slice p l.length c)), (7, .v (.int .i64 (l.length : Int))), (8, .v (.int .i64 (x : Int)))]) (fun x => [⟨false, [.v (.int .i64 n)]⟩]) (fun x => ((l.take x).any fun r => Ra.hit r n) = false) rfl ?_ ?_ ?_)
  · exact (by refine ⟨[0], by simp [NdL, NdA, oO_cells, oO_own, iL_nil], ?_, ?_, keep0 hJ⟩ <;> simp only [FitM, FitE, ObLe, LeL, Le, List.cons_append, List.nil_append] <;> (try (simp (maxSteps := 2000000) -implicitDefEqProofs only [s_alt, s_alt20, s_alt2t, s_alt2f, ↓s_loopi, ↓v_pq, ↓PRE, POST, CORE, Nat.reduceDiv, Nat.reduceMod, Int.reduceLT, Int.reduceLE, Int.reduceToNat, Int.reduceAdd, ↓reduceIte, Nat.reduceEqDiff, Nat.reduceAdd, Nat.reduceMul, Nat.reduceSub, Nat.reduceLeDiff, Nat.reduceLT, reduceCtorEq, if_true, eq_self, forall_const, implies_true])) <;> (try simp only [Sz.Le, Sz.LeL, List.getElem?_cons_zero, List.getElem?_cons_succ]) <;> (try simp))
  · intro x hx hI
    obtain ⟨r, hr⟩ : ∃ r, l[x]? = some r := ⟨_, List.getElem?_eq_getElem hx⟩
    have hp : p.isSome = true := inpL_isSome hin (by omega)
    have f : inpL (plusA p (x * 2)) 2 = some [.int .i64 r.fr, .int .i64 r.to] := inp_item gV_len hin rfl hr
    have i0 : (0 : Int) ≤ (x : Int) := by omega
    have i1 : (x : Int) < (l.length : Int) := by omega
    have w1 : IntKind.i64.wrap ((x : Int) + 1) = (x : Int) + 1 := Sz.w_64 (by omega) (by omega)
    simp (maxSteps := 2000000) -implicitDefEqProofs only [i0, i1, hp, f, w1, ↓c88, s_alt, s_alt20, s_alt2t, s_alt2f, ↓s_loopi, ↓v_pq, ↓PRE, POST, CORE, Nat.reduceDiv, Nat.reduceMod, Int.reduceLT, Int.reduceLE, Int.reduceToNat, Int.reduceAdd, ↓reduceIte, Nat.reduceEqDiff, Nat.reduceAdd, Nat.reduceMul, Nat.reduceSub, Nat.reduceLeDiff, Nat.reduceLT, reduceCtorEq, if_true, eq_self, forall_const, implies_true]
    refine ⟨r, n, 0, false, rfl, rfl, ?_⟩
    cases hh : Ra.hit r n with
    | true =>
      simp (maxSteps := 2000000) -implicitDefEqProofs only [s_alt, s_alt20, s_alt2t, s_alt2f, ↓s_loopi, ↓v_pq, ↓PRE, POST, CORE, Nat.reduceDiv, Nat.reduceMod, Int.reduceLT, Int.reduceLE, Int.reduceToNat, Int.reduceAdd, ↓reduceIte, Nat.reduceEqDiff, Nat.reduceAdd, Nat.reduceMul, Nat.reduceSub, Nat.reduceLeDiff, Nat.reduceLT, reduceCtorEq, if_true, eq_self, forall_const, implies_true]
      exact hk _ (by rw [any_good hr hh]; simp)
    | false =>
      simp (maxSteps := 2000000) -implicitDefEqProofs only [w1, s_alt, s_alt20, s_alt2t, s_alt2f, ↓s_loopi, ↓v_pq, ↓PRE, POST, CORE, Nat.reduceDiv, Nat.reduceMod, Int.reduceLT, Int.reduceLE, Int.reduceToNat, Int.reduceAdd, ↓reduceIte, Nat.reduceEqDiff, Nat.reduceAdd, Nat.reduceMul, Nat.reduceSub, Nat.reduceLeDiff, Nat.reduceLT, reduceCtorEq, if_true, eq_self, forall_const, implies_true]
      refine ⟨by rw [any_snoc _ hr, hI, hh]; rfl, ?_⟩
      exact (by refine ⟨[0], by simp [NdL, NdA, oO_cells, oO_own, iL_nil], ?_, ?_, keep0 hJ⟩ <;> simp only [FitM, FitE, ObLe, LeL, Le, List.cons_append, List.nil_append] <;> (try (simp (maxSteps := 2000000) -implicitDefEqProofs only [s_alt, s_alt20, s_alt2t, s_alt2f, ↓s_loopi, ↓v_pq, ↓PRE, POST, CORE, Nat.reduceDiv, Nat.reduceMod, Int.reduceLT, Int.reduceLE, Int.reduceToNat, Int.reduceAdd, ↓reduceIte, Nat.reduceEqDiff, Nat.reduceAdd, Nat.reduceMul, Nat.reduceSub, Nat.reduceLeDiff, Nat.reduceLT, reduceCtorEq, if_true, eq_self, forall_const, implies_true])) <;> (try simp only [Sz.Le, Sz.LeL, List.getElem?_cons_zero, List.getElem?_cons_succ]) <;> (try simp))
  · intro hI
    have j0 : ¬ (l.length : Int) < (l.length : Int) := by omega
    rw [List.take_length] at hI
    simp (maxSteps := 2000000) -implicitDefEqProofs only [j0, s_alt, s_alt20, s_alt2t, s_alt2f, ↓s_loopi, ↓v_pq, ↓PRE, POST, CORE, Nat.reduceDiv, Nat.reduceMod, Int.reduceLT, Int.reduceLE, Int.reduceToNat, Int.reduceAdd, ↓reduceIte, Nat.reduceEqDiff, Nat.reduceAdd, Nat.reduceMul, Nat.reduceSub, Nat.reduceLeDiff, Nat.reduceLT, reduceCtorEq, if_true, eq_self, forall_const, implies_true]
    exact hk _ (by rw [hI]; rfl)
def c87 [Inp] : Trans := fun args m k => ∃ (l : List Ra.Rg) (n : Int) (j : Nat) (o : Bool) (p : Option Addr) (c : Nat), args = [.v (.slice p l.length c), .fn 88 [.ptr j 0]] ∧ inpL p (l.length * 2) = some (rowV gV l) ∧ l.length ≤ 100000 ∧ m[j]? = some ⟨o, [.v (.int .i64 n)]⟩ ∧ k (.v (.bool (l.any fun r => Ra.hit r n))) m
theorem s111 [Inp] : GOk Try.prog [⟨111, true, c111⟩] := GOk.cons c111_ok (g0 _)
theorem c87_ok [I : Inp] : Contract Try.prog 87 true c87 := by
  refine .plain0 fn87 (G := fun J => [⟨111, true, @c111 J⟩]) (fun J => @s111 J) _ fun args m k h => ?_
  obtain ⟨l, n, j, o, p, c, rfl, hin, hmax, hj, hk⟩ := h
  refine ⟨[j], [⟨false, [.v (.int .i64 n)]⟩], [.v (.slice p l.length c), .fn 88 [.ptr 0 0]], by simp, by simp [FitM, hj, ObLe, LeL, Le], by simp, by simp [LeL, Le], by simp, fun J hJ hI => ?_⟩
  replace hin := hI _ _ _ hin
  simp (maxSteps := 2000000) -implicitDefEqProofs only [↓x87, ↓r87, ↓c111, s_alt, s_alt20, s_alt2t, s_alt2f, ↓s_loopi, ↓v_pq, ↓PRE, POST, CORE, Nat.reduceDiv, Nat.reduceMod, Int.reduceLT, Int.reduceLE, Int.reduceToNat, Int.reduceAdd, ↓reduceIte, Nat.reduceEqDiff, Nat.reduceAdd, Nat.reduceMul, Nat.reduceSub, Nat.reduceLeDiff, Nat.reduceLT, reduceCtorEq, if_true, eq_self, forall_const, implies_true]
  refine ⟨l, n, 0, false, p, c, rfl, hin, hmax, rfl, fun i hi => ?_⟩
  rw [hi]
  exact hk
def c54 [Inp] : Trans := fun args m k => ∃ (s : SV) (l : List Ra.Rg) (n : Int), args = [s, .v (.int .i64 n)] ∧ rdG m s = some l ∧ l.length ≤ 100000 ∧ k (.v (.bool (l.any fun r => Ra.hit r n))) m
theorem s87 [Inp] : GOk Try.prog [⟨87, true, c87⟩] := GOk.cons c87_ok (g0 _)
theorem c54_ok [I : Inp] : Contract Try.prog 54 true c54 := by
  refine .read fn54 (G := fun J => [⟨87, true, @c87 J⟩]) (fun J => @s87 J) _ fun args m k h => ?_
  obtain ⟨s, l, n, rfl, hl, hmax, hk⟩ := h
  refine ⟨by simp, fun J hJ us hus => ?_⟩
  obtain ⟨u, t1, rfl, hu1, u2, t2, rfl, hu2, rfl⟩ := hus
  obtain rfl := hu2.1 _ rfl
  obtain ⟨p, cc, rfl, hin⟩ := rdG_knows hl hu1
  rw [List.map_cons, List.map_cons, List.map_nil, of_sl, of_int]
  simp (maxSteps := 2000000) -implicitDefEqProofs only [↓x54, ↓r54, ↓c87, s_alt, s_alt20, s_alt2t, s_alt2f, ↓s_loopi, ↓v_pq, ↓PRE, POST, CORE, Nat.reduceDiv, Nat.reduceMod, Int.reduceLT, Int.reduceLE, Int.reduceToNat, Int.reduceAdd, ↓reduceIte, Nat.reduceEqDiff, Nat.reduceAdd, Nat.reduceMul, Nat.reduceSub, Nat.reduceLeDiff, Nat.reduceLT, reduceCtorEq, if_true, eq_self, forall_const, implies_true]
  exact ⟨l, n, 0, true, p, cc, rfl, hin, hmax, rfl, hk⟩
theorem rM_new {H : Mem} {S : List Ra.Rg} (h : S ≠ []) : (H ++ rM (vL gV S))[H.length]? = some ⟨true, vL gV S⟩ := by
  rw [List.getElem?_append_right (Nat.le_refl _), Nat.sub_self]
  exact rM_at gV_len (by omega) h
def one (n : Int) : Ra.Rg := ⟨min (Ra.clamp n) 1099511627775, min (Ra.clamp n) 1099511627775 + 1⟩
def c55 [Inp] : Trans := fun args m k => ∃ (s : SV) (zs : List Int), args = [s] ∧ rdI m s = some zs ∧ zs.length ≤ 1000 ∧ k (rS m.length 2 (setG (zs.map one)).length) (m ++ rM (vL gV (setG (zs.map one))))
def G55 [Inp] : List CEntry := [⟨89, true, c89⟩, ⟨29, true, c29⟩]
theorem s55 [Inp] : GOk Try.prog G55 := GOk.cons c89_ok (GOk.cons c29_ok (g0 _))
theorem c55_ok [I : Inp] : Contract Try.prog 55 true c55 := by
  refine .readF3 fn55 (G := fun J => @G55 J) (fun J => @s55 J) _ fun args m k h => ?_
  obtain ⟨s, zs, rfl, hz, hmax, hk⟩ := h
  refine ⟨by simp, fun J hJ us hus => ?_⟩
  obtain ⟨u, t1, rfl, hu1, rfl⟩ := hus
  obtain ⟨p, cc, rfl, hin⟩ := rdI_knows hz hu1
  rw [List.map_cons, List.map_nil, of_sl]
  simp (maxSteps := 2000000) -implicitDefEqProofs only [↓x55, ↓r55, s_alt, s_alt20, s_alt2t, s_alt2f, ↓s_loopi, ↓v_pq, ↓PRE, POST, CORE, Nat.reduceDiv, Nat.reduceMod, Int.reduceLT, Int.reduceLE, Int.reduceToNat, Int.reduceAdd, ↓reduceIte, Nat.reduceEqDiff, Nat.reduceAdd, Nat.reduceMul, Nat.reduceSub, Nat.reduceLeDiff, Nat.reduceLT, reduceCtorEq, if_true, eq_self, forall_const, implies_true]
  refine TXi_of (TX_count (@s55 J) zs.length (fun x => [(3, rS 0 2 x), (6, .v (.slice p zs.length cc)), (7, .v (.int .i64 (zs.length : Int))), (8, .v (.int .i64 (x : Int)))]) (fun x => rM (vL gV ((zs.take x).map one))) (fun _ => True) trivial ?_ ?_ ?_)
  · rw [List.take_zero, List.map_nil, rS_0, vL_nil, rM_0]
    exact (by refine ⟨[], by simp [NdL, NdA, oO_cells, oO_own, iL_nil], ?_, ?_, keep0 hJ⟩ <;> simp only [FitM, FitE, ObLe, LeL, Le, List.cons_append, List.nil_append] <;> (try (simp (maxSteps := 2000000) -implicitDefEqProofs only [s_alt, s_alt20, s_alt2t, s_alt2f, ↓s_loopi, ↓v_pq, ↓PRE, POST, CORE, Nat.reduceDiv, Nat.reduceMod, Int.reduceLT, Int.reduceLE, Int.reduceToNat, Int.reduceAdd, ↓reduceIte, Nat.reduceEqDiff, Nat.reduceAdd, Nat.reduceMul, Nat.reduceSub, Nat.reduceLeDiff, Nat.reduceLT, reduceCtorEq, if_true, eq_self, forall_const, implies_true])) <;> (try simp only [Sz.Le, Sz.LeL, List.getElem?_cons_zero, List.getElem?_cons_succ]) <;> (try simp))
  · intro x hx _
    obtain ⟨z, hr⟩ : ∃ z, zs[x]? = some z := ⟨_, List.getElem?_eq_getElem hx⟩
    have hp : p.isSome = true := inpL_isSome hin (by omega)
    have f : inpL (plusA p x) 1 = some [.int .i64 z] := inpI_at hin hr
    have i0 : (0 : Int) ≤ (x : Int) := by omega
    have i1 : (x : Int) < (zs.length : Int) := by omega
    have w1 : IntKind.i64.wrap ((x : Int) + 1) = (x : Int) + 1 := Sz.w_64 (by omega) (by omega)
    have hc := Ra.clamp_in z
    have hmn : (if (1099511627775 : Int) < Ra.clamp z then (1099511627775 : Int) else Ra.clamp z) = (one z).fr := by
      unfold one
      simp only
      split <;> omega
    have w2 : IntKind.i64.wrap ((one z).fr + 1) = (one z).to := by
      unfold one
      simp only
      unfold Ra.Mx at hc
      exact Sz.w_64 (by omega) (by omega)
    rw [map_snoc one hr, rS_s]
    have hV : vL gV ((zs.take x).map one ++ [one z]) = vL gV ((zs.take x).map one) ++ [.v (.int .i64 (one z).fr), .v (.int .i64 (one z).to)] := by rw [← vL_app]; rfl
    have hlt : ((zs.take x).map one).length = x := by rw [List.length_map, List.length_take]; omega
    generalize (zs.take x).map one = L at hV hlt ⊢
    cases L with
    | nil =>
      have hx0 : x = 0 := by rw [← hlt]; rfl
      rw [hV, vL_nil, List.nil_append, rM_s, show rS 0 2 x = .v (.slice none 0 0) by rw [hx0]; rfl, rM_0]
      simp (maxSteps := 2000000) -implicitDefEqProofs only [↓G55, ↓a89, i0, i1, w1, w2, hmn, hp, f, inp00, Option.map_some, List.map_nil, Nat.mul_one, s_alt, s_alt20, s_alt2t, s_alt2f, ↓s_loopi, ↓v_pq, ↓PRE, POST, CORE, Nat.reduceDiv, Nat.reduceMod, Int.reduceLT, Int.reduceLE, Int.reduceToNat, Int.reduceAdd, ↓reduceIte, Nat.reduceEqDiff, Nat.reduceAdd, Nat.reduceMul, Nat.reduceSub, Nat.reduceLeDiff, Nat.reduceLT, reduceCtorEq, if_true, eq_self, forall_const, implies_true]
      exact ⟨by unfold maxLen; omega, (by refine ⟨[1], by simp [NdL, NdA, oO_cells, oO_own, iL_nil], ?_, ?_, keep0 hJ⟩ <;> simp only [FitM, FitE, ObLe, LeL, Le, List.cons_append, List.nil_append] <;> (try (simp (maxSteps := 2000000) -implicitDefEqProofs only [List.length_nil, hx0, Nat.zero_add, s_alt, s_alt20, s_alt2t, s_alt2f, ↓s_loopi, ↓v_pq, ↓PRE, POST, CORE, Nat.reduceDiv, Nat.reduceMod, Int.reduceLT, Int.reduceLE, Int.reduceToNat, Int.reduceAdd, ↓reduceIte, Nat.reduceEqDiff, Nat.reduceAdd, Nat.reduceMul, Nat.reduceSub, Nat.reduceLeDiff, Nat.reduceLT, reduceCtorEq, if_true, eq_self, forall_const, implies_true])) <;> (try simp only [Sz.Le, Sz.LeL, List.getElem?_cons_zero, List.getElem?_cons_succ]) <;> (try simp))⟩
    | cons e L =>
      have hel : (vL gV (e :: L)).length = x * 2 := by rw [g_len, hlt]
      have hle : ∀ g, LeL g (vL gV (e :: L) ++ [.v (.int .i64 (one z).fr), .v (.int .i64 (one z).to)]) (vL gV (e :: L) ++ [.v (.int .i64 (one z).fr), .v (.int .i64 (one z).to)]) = True := fun g => by rw [← hV]; exact vL_le
      have hne : vL gV (e :: L) ≠ [] := by simp [vL, rowV, gV]
      have hx0 : x ≠ 0 := by rw [← hlt]; simp
      rw [hV, rS_ne hx0]
      clear hV
      generalize vL gV (e :: L) = C at hel hle hne ⊢
      have h1 : rM C = [⟨true, C⟩] := if_neg hne
      have h2 : ∀ X, rM (C ++ X) = [⟨true, C ++ X⟩] := fun X => if_neg (by simp [hne])
      have h3 : C.take (x * 2) = C := List.take_of_length_le (by omega)
      have h4 : x + 1 ≤ maxLen := by unfold maxLen; omega
      have h5 : (x + 1) * 16 ≤ 140737488355328 := by omega
      rw [h1, h2]
      simp (maxSteps := 2000000) -implicitDefEqProofs only [↓G55, ↓a89, i0, i1, w1, w2, hmn, hp, f, inp00, Option.map_some, List.map_nil, Nat.mul_one, hel, h3, h4, h5, Nat.le_refl, s_alt, s_alt20, s_alt2t, s_alt2f, ↓s_loopi, ↓v_pq, ↓PRE, POST, CORE, Nat.reduceDiv, Nat.reduceMod, Int.reduceLT, Int.reduceLE, Int.reduceToNat, Int.reduceAdd, ↓reduceIte, Nat.reduceEqDiff, Nat.reduceAdd, Nat.reduceMul, Nat.reduceSub, Nat.reduceLeDiff, Nat.reduceLT, reduceCtorEq, if_true, eq_self, forall_const, implies_true]
      exact (by refine ⟨[2], by simp [NdL, NdA, oO_cells, oO_own, iL_nil], ?_, ?_, keep0 hJ⟩ <;> simp only [FitM, FitE, ObLe, LeL, Le, List.cons_append, List.nil_append] <;> (try (simp (maxSteps := 2000000) -implicitDefEqProofs only [hle, s_alt, s_alt20, s_alt2t, s_alt2f, ↓s_loopi, ↓v_pq, ↓PRE, POST, CORE, Nat.reduceDiv, Nat.reduceMod, Int.reduceLT, Int.reduceLE, Int.reduceToNat, Int.reduceAdd, ↓reduceIte, Nat.reduceEqDiff, Nat.reduceAdd, Nat.reduceMul, Nat.reduceSub, Nat.reduceLeDiff, Nat.reduceLT, reduceCtorEq, if_true, eq_self, forall_const, implies_true])) <;> (try simp only [Sz.Le, Sz.LeL, List.getElem?_cons_zero, List.getElem?_cons_succ]) <;> (try simp))
  · intro _
    have j0 : ¬ (zs.length : Int) < (zs.length : Int) := by omega
    rw [List.take_length]
    have hlm : zs.length = (zs.map one).length := by rw [List.length_map]
    generalize zs.map one = L at hlm hk ⊢
    simp (maxSteps := 2000000) -implicitDefEqProofs only [↓G55, j0, ↓c29, s_alt, s_alt20, s_alt2t, s_alt2f, ↓s_loopi, ↓v_pq, ↓PRE, POST, CORE, Nat.reduceDiv, Nat.reduceMod, Int.reduceLT, Int.reduceLE, Int.reduceToNat, Int.reduceAdd, ↓reduceIte, Nat.reduceEqDiff, Nat.reduceAdd, Nat.reduceMul, Nat.reduceSub, Nat.reduceLeDiff, Nat.reduceLT, reduceCtorEq, if_true, eq_self, forall_const, implies_true]
    refine ⟨_, L, rfl, by rw [hlm]; exact rdG_r fun h => ⟨true, rM_at gV_len (by omega) h⟩, by omega, ?_⟩
    exact fin_row gV_len (by omega) _ _ _ (rM (vL gV L)).length (fun h => by rw [h]; rfl) (fun h => ⟨rS_ne (fun e => h (List.length_eq_zero_iff.1 e)), rM_new h⟩) hk
end Rc
end Go.Proofs.Ytcejgadbpahbmaa
end
section
namespace Go.Proofs.Ytcejgadbpahbmaa
open Go.RowKit Sz
set_option maxHeartbeats 16000000
set_option maxRecDepth 20000
namespace Rc
def RdE [Inp] (m : Mem) (s : SV) (L : List Ra.Rg) : Prop := ∀ t, rdG (m ++ t) s = some L
class KBox where
  q : SV → Mem → Prop
def useI (tr : Trans) (args : List SV) (m : Mem) [b : KBox] : Prop := tr args m b.q
theorem useI_of {tr : Trans} {args : List SV} {m : Mem} {K : SV → Mem → Prop} (h : tr args m K) : @useI tr args m ⟨K⟩ := h
theorem v_kq {K : SV → Mem → Prop} {s : SV} {m : Mem} : @KBox.q ⟨K⟩ s m = K s m := Eq.trans rfl rfl
section
variable [Inp] {l : List SV} {m : Mem} {K : SV → Mem → Prop} {T : Bool → Bool → Bool}
theorem iMix : cMix T l m K = @useI (cMix T) l m ⟨K⟩ := Eq.trans rfl rfl
theorem i22 : c22 l m K = @useI c22 l m ⟨K⟩ := Eq.trans rfl rfl
theorem i23 : c23 l m K = @useI c23 l m ⟨K⟩ := Eq.trans rfl rfl
theorem i24 : c24 l m K = @useI c24 l m ⟨K⟩ := Eq.trans rfl rfl
theorem i25 : c25 l m K = @useI c25 l m ⟨K⟩ := Eq.trans rfl rfl
theorem i29 : c29 l m K = @useI c29 l m ⟨K⟩ := Eq.trans rfl rfl
theorem i54 : c54 l m K = @useI c54 l m ⟨K⟩ := Eq.trans rfl rfl
theorem i55 : c55 l m K = @useI c55 l m ⟨K⟩ := Eq.trans rfl rfl
end
section
variable [Inp] {m : Mem} {s s1 s2 : SV} {L a b : List Ra.Rg} {K : SV → Mem → Prop} {T : Bool → Bool → Bool}
theorem RdE.get (h : RdE m s L) : rdG m s = some L := by have := h []; rwa [List.append_nil] at this
theorem RdE.ext (h : RdE m s L) (t : Mem) : RdE (m ++ t) s L := fun u => by rw [List.append_assoc]; exact h _
theorem RdE_v {p : Option Addr} {n c : Nat} (h : inpL p (n * 2) = some (rowV gV L)) : RdE m (.v (.slice p n c)) L := fun t => rdG_v h
theorem RdE_new : RdE (m ++ rM (vL gV L)) (rS m.length 2 L.length) L := fun t => by
  refine rdG_r fun h => ⟨true, ?_⟩
  rw [List.getElem?_append_left (by rw [List.length_append, rM_ne (vL_ne gV_len (by omega) h)]; simp)]
  exact rM_new h
omit [Inp] in
theorem at_app {i : Nat} {o : SObj} {t : Mem} (h : m[i]? = some o) : (m ++ t)[i]? = some o := by
  rw [List.getElem?_append_left (List.getElem?_eq_some_iff.1 h).1]
  exact h
theorem useMix (h1 : RdE m s1 a) (h2 : RdE m s2 b) (ha : a.length ≤ 10000) (hb : b.length ≤ 10000) (hk : ∀ j m', RdE m' (rS j 2 (Ra.swp T a b).length) (Ra.swp T a b) → (Ra.swp T a b ≠ [] → m'[j]? = some ⟨true, vL gV (Ra.swp T a b)⟩) → (∀ s L, RdE m s L → RdE m' s L) → (∀ (i : Nat) o, m[i]? = some o → m'[i]? = some o) → K (rS j 2 (Ra.swp T a b).length) m') : cMix T [s1, s2] m K :=
  ⟨s1, s2, a, b, rfl, h1.get, h2.get, ha, hb, hk _ _ RdE_new (fun h => rM_new h) (fun s L h => h.ext _) (fun i o h => at_app h)⟩
theorem useSet (h1 : RdE m s1 a) (ha : a.length ≤ 10000) (hk : ∀ j m', RdE m' (rS j 2 (setG a).length) (setG a) → (setG a ≠ [] → m'[j]? = some ⟨true, vL gV (setG a)⟩) → (∀ s L, RdE m s L → RdE m' s L) → (∀ (i : Nat) o, m[i]? = some o → m'[i]? = some o) → K (rS j 2 (setG a).length) m') : c29 [s1] m K :=
  ⟨s1, a, rfl, h1.get, ha, hk _ _ RdE_new (fun h => rM_new h) (fun s L h => h.ext _) (fun i o h => at_app h)⟩
theorem useRows (h1 : RdE m s1 a) (ha : a.length ≤ 10000) (hk : ∀ j m', RdE m' (rS j 2 a.length) a → (a ≠ [] → m'[j]? = some ⟨true, vL gV (a)⟩) → (∀ s L, RdE m s L → RdE m' s L) → (∀ (i : Nat) o, m[i]? = some o → m'[i]? = some o) → K (rS j 2 a.length) m') : c22 [s1] m K :=
  ⟨s1, a, rfl, h1.get, by omega, hk _ _ RdE_new (fun h => rM_new h) (fun s L h => h.ext _) (fun i o h => at_app h)⟩
theorem useSame (h1 : RdE m s1 a) (h2 : RdE m s2 b) (ha : a.length ≤ 10000) (hb : b.length ≤ 10000) (hk : K (.v (.bool (a == b))) m) : c23 [s1, s2] m K :=
  ⟨s1, s2, a, b, rfl, h1.get, h2.get, by omega, by omega, hk⟩
theorem useCount (h1 : RdE m s1 a) (ha : a.length ≤ 10000) (hk : K (.v (.int .i64 (Ra.lenS (setG a)))) m) : c24 [s1] m K :=
  ⟨s1, a, rfl, h1.get, ha, hk⟩
theorem useIs (h1 : RdE m s1 a) (ha : a.length ≤ 10000) (hk : K (.v (.bool (Ra.isF none a))) m) : c25 [s1] m K :=
  ⟨s1, a, rfl, h1.get, by omega, hk⟩
theorem useHas {n : Int} (h1 : RdE m s1 a) (ha : a.length ≤ 10000) (hk : K (.v (.bool (a.any fun r => Ra.hit r n))) m) : c54 [s1, .v (.int .i64 n)] m K :=
  ⟨s1, a, n, rfl, h1.get, by omega, hk⟩
end
-- almshouse/almshouselaw51.fixed (0 parameters)
def x20 : XC := (.seq (.tree (.seq ⟨some 0, none, (.ofA (.mv (.cst (.v (.bool false)))))⟩
 .done))
 (.seq (.tree (.seq ⟨some 3, none, (.build [(.v (.int .i64 0)), (.v (.int .i64 0))] [(0, 1, (.cst (.v (.int .i64 3)))), (1, 1, (.cst (.v (.int .i64 5))))])⟩
 (.seq ⟨some 4, none, (.build [(.v (.int .i64 0)), (.v (.int .i64 0))] [(0, 1, (.cst (.v (.int .i64 1)))), (1, 1, (.cst (.v (.int .i64 3))))])⟩
 (.seq ⟨some 5, none, (.build [(.v (.int .i64 0)), (.v (.int .i64 0))] [(0, 1, (.cst (.v (.int .i64 9)))), (1, 1, (.cst (.v (.int .i64 2))))])⟩
 (.seq ⟨some 6, none, (.buildSl 2 3 [(.v (.int .i64 0)), (.v (.int .i64 0)), (.v (.int .i64 0)), (.v (.int .i64 0)), (.v (.int .i64 0)), (.v (.int .i64 0))] [(0, 2, (.tmp 3)), (2, 2, (.tmp 4)), (4, 2, (.tmp 5))])⟩
 (.seq ⟨some 7, none, (.call (.cst (.fn 29 [])) [(.tmp 6)])⟩
 (.seq ⟨some 1, none, (.ofA (.mv (.tmp 7)))⟩
 .done)))))))
 (.seq (.tree (.seq ⟨some 8, none, (.ofA (.mv (.tmp 1)))⟩
 (.seq ⟨some 9, none, (.build [(.v (.int .i64 0)), (.v (.int .i64 0))] [(0, 1, (.cst (.v (.int .i64 2)))), (1, 1, (.cst (.v (.int .i64 4))))])⟩
 (.seq ⟨some 10, none, (.buildSl 2 1 [(.v (.int .i64 0)), (.v (.int .i64 0))] [(0, 2, (.tmp 9))])⟩
 (.seq ⟨some 11, none, (.call (.cst (.fn 27 [])) [(.tmp 8), (.tmp 10)])⟩
 (.seq ⟨some 2, none, (.ofA (.mv (.tmp 11)))⟩
 .done))))))
 (.seq (.tree (.seq ⟨some 12, none, (.ofA (.mv (.tmp 1)))⟩
 (.seq ⟨some 13, none, (.ofA (.len (.tmp 12)))⟩
 (.seq ⟨some 14, none, (.ofA (.bin .eql (.tmp 13) (.cst (.v (.int .i64 1)))))⟩
 (.seq ⟨some 15, none, (.ofA (.mv (.tmp 14)))⟩
 (.seq ⟨some 16, some (15, true), (.ofA (.mv (.tmp 1)))⟩
 (.seq ⟨some 17, some (15, true), (.ofA (.isl 2 (.tmp 16) (.cst (.v (.int .i64 0)))))⟩
 (.seq ⟨some 18, some (15, true), (.ofA (.load (some 2) (.tmp 17)))⟩
 (.seq ⟨some 19, some (15, true), (.build [(.v (.int .i64 0)), (.v (.int .i64 0))] [(0, 1, (.cst (.v (.int .i64 1)))), (1, 1, (.cst (.v (.int .i64 5))))])⟩
 (.seq ⟨some 20, some (15, true), (.ofA (.eqs false [.int, .int] (.tmp 18) (.tmp 19)))⟩
 (.seq ⟨some 21, none, (.ofA (.pick (.tmp 15) (.tmp 20) (.cst (.v (.bool false)))))⟩
 (.seq ⟨some 22, none, (.ofA (.mv (.tmp 21)))⟩
 (.seq ⟨some 23, some (22, true), (.ofA (.mv (.tmp 2)))⟩
 (.seq ⟨some 24, some (22, true), (.ofA (.len (.tmp 23)))⟩
 (.seq ⟨some 25, some (22, true), (.ofA (.bin .eql (.tmp 24) (.cst (.v (.int .i64 2)))))⟩
 (.seq ⟨some 26, none, (.ofA (.pick (.tmp 22) (.tmp 25) (.cst (.v (.bool false)))))⟩
 (.seq ⟨some 27, none, (.ofA (.mv (.tmp 26)))⟩
 (.seq ⟨some 28, some (27, true), (.ofA (.mv (.tmp 2)))⟩
 (.seq ⟨some 29, some (27, true), (.ofA (.isl 2 (.tmp 28) (.cst (.v (.int .i64 1)))))⟩
 (.seq ⟨some 30, some (27, true), (.ofA (.load (some 2) (.tmp 29)))⟩
 (.seq ⟨some 31, some (27, true), (.build [(.v (.int .i64 0)), (.v (.int .i64 0))] [(0, 1, (.cst (.v (.int .i64 4)))), (1, 1, (.cst (.v (.int .i64 5))))])⟩
 (.seq ⟨some 32, some (27, true), (.ofA (.eqs false [.int, .int] (.tmp 30) (.tmp 31)))⟩
 (.seq ⟨some 33, none, (.ofA (.pick (.tmp 27) (.tmp 32) (.cst (.v (.bool false)))))⟩
 (.seq ⟨some 34, none, (.ofA (.mv (.tmp 33)))⟩
 (.seq ⟨some 35, some (34, true), (.ofA (.mv (.tmp 2)))⟩
 (.seq ⟨some 36, some (34, true), (.call (.cst (.fn 24 [])) [(.tmp 35)])⟩
 (.seq ⟨some 37, some (34, true), (.ofA (.bin .eql (.tmp 36) (.cst (.v (.int .i64 2)))))⟩
 (.seq ⟨some 38, none, (.ofA (.pick (.tmp 34) (.tmp 37) (.cst (.v (.bool false)))))⟩
 (.seq ⟨some 39, none, (.ofA (.mv (.tmp 38)))⟩
 (.seq ⟨some 40, some (39, true), (.ofA (.mv (.tmp 2)))⟩
 (.seq ⟨some 41, some (39, true), (.call (.cst (.fn 25 [])) [(.tmp 40)])⟩
 (.seq ⟨some 42, none, (.ofA (.pick (.tmp 39) (.tmp 41) (.cst (.v (.bool false)))))⟩
 (.seq ⟨some 43, none, (.ofA (.mv (.tmp 42)))⟩
 (.seq ⟨some 44, some (43, true), (.ofA (.mv (.tmp 2)))⟩
 (.seq ⟨some 45, some (43, true), (.call (.cst (.fn 54 [])) [(.tmp 44), (.cst (.v (.int .i64 4)))])⟩
 (.seq ⟨some 46, none, (.ofA (.pick (.tmp 43) (.tmp 45) (.cst (.v (.bool false)))))⟩
 (.seq ⟨some 47, none, (.ofA (.mv (.tmp 46)))⟩
 (.seq ⟨some 48, some (47, true), (.ofA (.mv (.tmp 2)))⟩
 (.seq ⟨some 49, some (47, true), (.call (.cst (.fn 54 [])) [(.tmp 48), (.cst (.v (.int .i64 3)))])⟩
 (.seq ⟨some 50, some (47, true), (.ofA (.un .not (.tmp 49)))⟩
 (.seq ⟨some 51, none, (.ofA (.pick (.tmp 47) (.tmp 50) (.cst (.v (.bool false)))))⟩
 (.seq ⟨some 52, none, (.ofA (.mv (.tmp 51)))⟩
 (.seq ⟨some 53, some (52, true), (.buildSl 1 3 [(.v (.int .i64 0)), (.v (.int .i64 0)), (.v (.int .i64 0))] [(0, 1, (.cst (.v (.int .i64 7)))), (1, 1, (.cst (.v (.int .i64 8)))), (2, 1, (.cst (.v (.int .i64 2))))])⟩
 (.seq ⟨some 54, some (52, true), (.call (.cst (.fn 55 [])) [(.tmp 53)])⟩
 (.seq ⟨some 55, some (52, true), (.ofA (.len (.tmp 54)))⟩
 (.seq ⟨some 56, some (52, true), (.ofA (.bin .eql (.tmp 55) (.cst (.v (.int .i64 2)))))⟩
 (.seq ⟨some 57, none, (.ofA (.pick (.tmp 52) (.tmp 56) (.cst (.v (.bool false)))))⟩
 (.seq ⟨some 0, none, (.ofA (.mv (.tmp 57)))⟩
 .done))))))))))))))))))))))))))))))))))))))))))))))))
 .ret))))
def r20 : List XR := [.tmp 0]
theorem fn20 : FnX Try.prog 20 [92] 58 x20 r20 := ⟨_, Try.func20, by kernel_rfl, by kernel_rfl, by kernel_rfl, by kernel_rfl⟩
-- almshouse/almshouselaw51.RangesLaws (2 parameters)
def c20 [Inp] : Trans := fun args m k => args = [] ∧ k (.v (.bool true)) m
def G20 [Inp] : List CEntry := [⟨29, true, c29⟩, ⟨27, true, cMix Ra.tBut⟩, ⟨24, true, c24⟩, ⟨25, true, c25⟩, ⟨54, true, c54⟩, ⟨55, true, c55⟩]
theorem s20 [Inp] : GOk Try.prog G20 := GOk.cons c29_ok (GOk.cons c27_ok (GOk.cons c24_ok (GOk.cons c25_ok (GOk.cons c54_ok (GOk.cons c55_ok (g0 _))))))
theorem v1 : setG [⟨3, 5⟩, ⟨1, 3⟩, ⟨9, 2⟩] = [⟨1, 5⟩] := by decide
theorem v2 : Ra.swp Ra.tBut [⟨1, 5⟩] [⟨2, 4⟩] = [⟨1, 2⟩, ⟨4, 5⟩] := by decide
theorem v3 : Ra.lenS (setG [⟨1, 2⟩, ⟨4, 5⟩]) = 2 := by decide
theorem v4 : Ra.isF none [⟨1, 2⟩, ⟨4, 5⟩] = true := by decide
theorem v5 : ([⟨1, 2⟩, ⟨4, 5⟩] : List Ra.Rg).any (fun r => Ra.hit r 4) = true := by decide
theorem v6 : ([⟨1, 2⟩, ⟨4, 5⟩] : List Ra.Rg).any (fun r => Ra.hit r 3) = false := by decide
theorem v7 : setG ([7, 8, 2].map one) = [⟨2, 3⟩, ⟨7, 9⟩] := by decide
theorem c20_ok [I : Inp] : Contract Try.prog 20 true c20 := by
  refine .plainArgs fn20 s20 _ fun args m k h => ?_
  obtain ⟨rfl, hk⟩ := h
  refine ⟨rfl, by simp, ?_⟩
  simp (maxSteps := 2000000) -implicitDefEqProofs only [↓x20, ↓r20, ↓G20, ↓i29, ↓iMix, ↓i24, ↓i25, ↓i54, ↓i55, s_alt, s_alt20, s_alt2t, s_alt2f, ↓s_loopi, ↓v_pq, ↓PRE, POST, CORE, Nat.reduceDiv, Nat.reduceMod, Int.reduceLT, Int.reduceLE, Int.reduceToNat, Int.reduceAdd, ↓reduceIte, Nat.reduceEqDiff, Nat.reduceAdd, Nat.reduceMul, Nat.reduceSub, Nat.reduceLeDiff, Nat.reduceLT, reduceCtorEq, if_true, eq_self, forall_const, implies_true]
  refine useI_of (useSet (a := [⟨3, 5⟩, ⟨1, 3⟩, ⟨9, 2⟩]) (fun t => rfl) (by simp) fun j1 m1 h1 g1 _ _ => ?_)
  rw [v1] at h1 g1 ⊢
  replace g1 := g1 (by simp)
  rw [List.length_cons, List.length_nil, rS_s] at h1 ⊢
  simp (maxSteps := 2000000) -implicitDefEqProofs only [↓v_kq, ↓G20, ↓i29, ↓iMix, ↓i24, ↓i25, ↓i54, ↓i55, s_alt, s_alt20, s_alt2t, s_alt2f, ↓s_loopi, ↓v_pq, ↓PRE, POST, CORE, Nat.reduceDiv, Nat.reduceMod, Int.reduceLT, Int.reduceLE, Int.reduceToNat, Int.reduceAdd, ↓reduceIte, Nat.reduceEqDiff, Nat.reduceAdd, Nat.reduceMul, Nat.reduceSub, Nat.reduceLeDiff, Nat.reduceLT, reduceCtorEq, if_true, eq_self, forall_const, implies_true]
  have h2 := @RdE_new _ m1 [⟨2, 4⟩]
  have hl : vL gV [⟨2, 4⟩] = [.v (.int .i64 2), .v (.int .i64 4)] := rfl
  rw [hl, rM_s, List.length_cons, List.length_nil, rS_s] at h2
  refine useI_of (useMix (h1.ext _) h2 (by simp) (by simp) fun j2 m2 h3 g3 k3 k4 => ?_)
  rw [v2] at h3 g3 ⊢
  replace g3 := g3 (by simp)
  replace g1 := k4 _ _ (at_app g1)
  have e1 : vL gV [⟨1, 5⟩] = [.v (.int .i64 1), .v (.int .i64 5)] := rfl
  have e3 : vL gV [⟨1, 2⟩, ⟨4, 5⟩] = [.v (.int .i64 1), .v (.int .i64 2), .v (.int .i64 4), .v (.int .i64 5)] := rfl
  rw [e1] at g1
  rw [e3] at g3
  rw [List.length_cons, List.length_cons, List.length_nil, rS_s] at h3 ⊢
  simp (maxSteps := 2000000) -implicitDefEqProofs only [↓v_kq, ↓G20, ↓i29, ↓iMix, ↓i24, ↓i25, ↓i54, ↓i55, g1, g3, s_alt, s_alt20, s_alt2t, s_alt2f, ↓s_loopi, ↓v_pq, ↓PRE, POST, CORE, Nat.reduceDiv, Nat.reduceMod, Int.reduceLT, Int.reduceLE, Int.reduceToNat, Int.reduceAdd, ↓reduceIte, Nat.reduceEqDiff, Nat.reduceAdd, Nat.reduceMul, Nat.reduceSub, Nat.reduceLeDiff, Nat.reduceLT, reduceCtorEq, if_true, eq_self, forall_const, implies_true]
  simp only [beq_self_eq_true, Bool.and_self, if_true]
  refine useI_of (useCount h3 (by simp) ?_)
  rw [v3]
  simp (maxSteps := 2000000) -implicitDefEqProofs only [↓v_kq, ↓G20, ↓i29, ↓iMix, ↓i24, ↓i25, ↓i54, ↓i55, s_alt, s_alt20, s_alt2t, s_alt2f, ↓s_loopi, ↓v_pq, ↓PRE, POST, CORE, Nat.reduceDiv, Nat.reduceMod, Int.reduceLT, Int.reduceLE, Int.reduceToNat, Int.reduceAdd, ↓reduceIte, Nat.reduceEqDiff, Nat.reduceAdd, Nat.reduceMul, Nat.reduceSub, Nat.reduceLeDiff, Nat.reduceLT, reduceCtorEq, if_true, eq_self, forall_const, implies_true]
  simp only [beq_self_eq_true, Bool.and_self, if_true]
  refine useI_of (useIs h3 (by simp) ?_)
  rw [v4]
  simp (maxSteps := 2000000) -implicitDefEqProofs only [↓v_kq, ↓G20, ↓i29, ↓iMix, ↓i24, ↓i25, ↓i54, ↓i55, s_alt, s_alt20, s_alt2t, s_alt2f, ↓s_loopi, ↓v_pq, ↓PRE, POST, CORE, Nat.reduceDiv, Nat.reduceMod, Int.reduceLT, Int.reduceLE, Int.reduceToNat, Int.reduceAdd, ↓reduceIte, Nat.reduceEqDiff, Nat.reduceAdd, Nat.reduceMul, Nat.reduceSub, Nat.reduceLeDiff, Nat.reduceLT, reduceCtorEq, if_true, eq_self, forall_const, implies_true]
  refine useI_of (useHas h3 (by simp) ?_)
  rw [v5]
  simp (maxSteps := 2000000) -implicitDefEqProofs only [↓v_kq, ↓G20, ↓i29, ↓iMix, ↓i24, ↓i25, ↓i54, ↓i55, s_alt, s_alt20, s_alt2t, s_alt2f, ↓s_loopi, ↓v_pq, ↓PRE, POST, CORE, Nat.reduceDiv, Nat.reduceMod, Int.reduceLT, Int.reduceLE, Int.reduceToNat, Int.reduceAdd, ↓reduceIte, Nat.reduceEqDiff, Nat.reduceAdd, Nat.reduceMul, Nat.reduceSub, Nat.reduceLeDiff, Nat.reduceLT, reduceCtorEq, if_true, eq_self, forall_const, implies_true]
  refine useI_of (useHas h3 (by simp) ?_)
  rw [v6]
  simp (maxSteps := 2000000) -implicitDefEqProofs only [↓v_kq, ↓G20, ↓i29, ↓iMix, ↓i24, ↓i25, ↓i54, ↓i55, s_alt, s_alt20, s_alt2t, s_alt2f, ↓s_loopi, ↓v_pq, ↓PRE, POST, CORE, Nat.reduceDiv, Nat.reduceMod, Int.reduceLT, Int.reduceLE, Int.reduceToNat, Int.reduceAdd, ↓reduceIte, Nat.reduceEqDiff, Nat.reduceAdd, Nat.reduceMul, Nat.reduceSub, Nat.reduceLeDiff, Nat.reduceLT, reduceCtorEq, if_true, eq_self, forall_const, implies_true]
  refine useI_of ⟨_, [7, 8, 2], rfl, ?_, by simp, ?_⟩
  · unfold rdI
    rw [sl_row, List.getElem?_append_right (Nat.le_refl _), Nat.sub_self]
    rfl
  rw [v7]
  simp (maxSteps := 2000000) -implicitDefEqProofs only [↓v_kq, s_len, s_alt, s_alt20, s_alt2t, s_alt2f, ↓s_loopi, ↓v_pq, ↓PRE, POST, CORE, Nat.reduceDiv, Nat.reduceMod, Int.reduceLT, Int.reduceLE, Int.reduceToNat, Int.reduceAdd, ↓reduceIte, Nat.reduceEqDiff, Nat.reduceAdd, Nat.reduceMul, Nat.reduceSub, Nat.reduceLeDiff, Nat.reduceLT, reduceCtorEq, if_true, eq_self, forall_const, implies_true]
  exact hk
theorem i20 [Inp] {l : List SV} {m : Mem} {K : SV → Mem → Prop} : c20 l m K = @useI c20 l m ⟨K⟩ := Eq.trans rfl rfl
end Rc
end Go.Proofs.Ytcejgadbpahbmaa
end
section
namespace Go.Proofs.Ytcejgadbpahbmaa.Sz
open Go.RowKit
variable {P : Program} {f : FuncId} {eff : List FuncId} {N : Nat} {x : XC} {rs : List XR}
theorem Contract.readI3 [I : Inp] (hF : FnX P f eff N x rs) {G : Inp → List CEntry} (hG : ∀ J, @GOk J P (G J)) (tr : Trans)
    (body : ∀ args m k, tr args m k → args.length ≤ N ∧ ∀ (J : Inp), J.keep = 0 → ∀ (us : List Value), KnowsL I J m args us → (∀ p k vs, @inpL I p k = some vs → @inpL J p k = some vs) → @evX J P N eff (G J) x (slots (argSlots 0 (us.map SV.of))) [] (fun ex e m' => EndsX ex ∧ evR rs e m' fun s => ∃ (g2 : List Nat) (s2 : SV) (m2 : Mem), NdL g2 m2 ∧ FitM g2 m' g2 m2 ∧ (∀ o ∈ m2, o.own = true ∨ (o.own = false ∧ o.cells = [])) ∧ Le g2 s2 s ∧ k (s2.up m.length) (m ++ m2.map (SObj.up m.length)))) : Contract P f true tr := by
  refine ⟨hF.enter, fun args m k base w0 W r vs ht hst ha => ?_⟩
  obtain ⟨hlen, hev⟩ := body args m k ht
  have hk := knowsL_of hst ha
  have hvl := IsL_len ha
  refine (@FnX.calls P f eff N x rs (G (inpOf W)) (inpOf W) hF (hG (inpOf W)) _ _ _ _ _ _ _ (St.inpOf W) (isL_of vs) (by simp; omega) (fun s m' => ∃ (g2 : List Nat) (s2 : SV) (m2 : Mem), NdL g2 m2 ∧ FitM g2 m' g2 m2 ∧ (∀ o ∈ m2, o.own = true ∨ (o.own = false ∧ o.cells = [])) ∧ Le g2 s2 s ∧ k (s2.up m.length) (m ++ m2.map (SObj.up m.length))) (hev (inpOf W) rfl vs hk fun p k us h => inp_from hst h)).mono ?_
  rintro e W1 ⟨s, m', r', u, ⟨g2, s2, m2, hn2, hm2, hown, hle2, hk⟩, rfl, hst1, hs, _⟩
  have hb : Below W.heap.size W W1 := (@St.low (inpOf W) _ _ _ _ _ hst1).below
  obtain ⟨r2, hst2, hr2, _⟩ := @fit_sound (inpOf W) 0 _ (fun _ => .any) _ _ [] _ _ _ _ #[] hn2 hm2 hst1
  have hj := St.join4 I (inpOf W) hst hst2 hown
  rw [← hst.len] at hk
  exact ⟨_, _, r2, u, hk, rfl, hj, up_is (Le.is hr2 hle2 hs), fun _ => Same.below hst hb⟩
end Go.Proofs.Ytcejgadbpahbmaa.Sz
end
section
namespace Go.Proofs.Ytcejgadbpahbmaa.Ra
def posN (n : Int) : List Int → Nat
  | [] => 0
  | x :: l => if x < n then posN n l + 1 else 0
def insN (n : Int) (l : List Int) : List Int := if l[posN n l]? = some n then l else l.take (posN n l) ++ n :: l.drop (posN n l)
theorem posN_le (n : Int) : ∀ l, posN n l ≤ l.length
  | [] => Nat.le_refl _
  | x :: l => by
    unfold posN
    have := posN_le n l
    split <;> simp <;> omega
theorem posN_lt {n : Int} : ∀ {l : List Int} {i : Nat} {x : Int}, i < posN n l → l[i]? = some x → x < n
  | [], i, x, h, hx => by simp at hx
  | y :: l, i, x, h, hx => by
    unfold posN at h
    split at h
    · rename_i hy
      cases i with
      | zero => simp at hx; omega
      | succ i => exact posN_lt (l := l) (i := i) (by omega) (by simpa using hx)
    · omega
theorem posN_ge {n : Int} : ∀ {l : List Int} {x : Int}, l[posN n l]? = some x → n ≤ x
  | [], x, hx => by simp at hx
  | y :: l, x, hx => by
    unfold posN at hx
    split at hx
    · exact posN_ge (by simpa using hx)
    · simp at hx; omega
theorem insN_cons {n x : Int} {l : List Int} : insN n (x :: l) = if x < n then x :: insN n l else if x = n then x :: l else n :: x :: l := by
  have e : posN n (x :: l) = if x < n then posN n l + 1 else 0 := rfl
  unfold insN
  rw [e]
  by_cases h : x < n
  · simp only [h, if_true, List.getElem?_cons_succ, List.take_succ_cons, List.drop_succ_cons]
    split <;> rfl
  · simp only [h, if_false]
    by_cases h2 : x = n
    · simp [h2]
    · simp [h2]
theorem insN_nil {n : Int} : insN n [] = [n] := rfl
theorem insN_mem {n m : Int} : ∀ {l : List Int}, m ∈ insN n l ↔ m = n ∨ m ∈ l
  | [] => by simp [insN_nil]
  | x :: l => by
    rw [insN_cons]
    split
    · rw [List.mem_cons, insN_mem, List.mem_cons]
      constructor <;> (rintro (h | h | h) <;> simp [h])
    · split
      · rename_i h
        rw [h, List.mem_cons]
        constructor
        · rintro (h | h) <;> simp [h]
        · rintro (h | h | h) <;> simp [h]
      · simp
theorem insN_sorted {n : Int} : ∀ {l : List Int}, l.Pairwise (· < ·) → (insN n l).Pairwise (· < ·)
  | [], _ => by simp [insN_nil]
  | x :: l, h => by
    rw [List.pairwise_cons] at h
    rw [insN_cons]
    split
    · rename_i hx
      rw [List.pairwise_cons]
      refine ⟨fun y hy => ?_, insN_sorted h.2⟩
      rcases insN_mem.1 hy with rfl | hy
      · exact hx
      · exact h.1 y hy
    · rename_i hx
      split
      · rw [List.pairwise_cons]; exact h
      · rw [List.pairwise_cons, List.pairwise_cons]
        refine ⟨fun y hy => ?_, h⟩
        rcases List.mem_cons.1 hy with rfl | hy
        · omega
        · have := h.1 y hy; omega
theorem insN_len (n : Int) (l : List Int) : (insN n l).length ≤ l.length + 1 := by
  have := posN_le n l
  unfold insN
  split
  · omega
  · simp; omega
def edN (a : List Rg) : List Int := a.foldl (fun o r => insN (clamp r.to) (insN (clamp r.fr) o)) []
theorem edN_all (a : List Rg) : (edN a).Pairwise (· < ·) ∧ (edN a).length ≤ 2 * a.length ∧ ∀ m, m ∈ edN a ↔ ∃ r ∈ a, m = clamp r.fr ∨ m = clamp r.to := by
  have key : ∀ (l : List Rg) (o : List Int), o.Pairwise (· < ·) → (l.foldl (fun o r => insN (clamp r.to) (insN (clamp r.fr) o)) o).Pairwise (· < ·) ∧ (l.foldl (fun o r => insN (clamp r.to) (insN (clamp r.fr) o)) o).length ≤ o.length + 2 * l.length ∧ ∀ m, m ∈ l.foldl (fun o r => insN (clamp r.to) (insN (clamp r.fr) o)) o ↔ m ∈ o ∨ ∃ r ∈ l, m = clamp r.fr ∨ m = clamp r.to := by
    intro l
    induction l with
    | nil => intro o ho; exact ⟨ho, by simp, fun m => by simp⟩
    | cons r l ih =>
      intro o ho
      obtain ⟨h1, h2, h3⟩ := ih _ (insN_sorted (n := clamp r.to) (insN_sorted (n := clamp r.fr) ho))
      have e1 := insN_len (clamp r.fr) o
      have e2 := insN_len (clamp r.to) (insN (clamp r.fr) o)
      refine ⟨h1, by rw [List.foldl_cons, List.length_cons]; omega, fun m => ?_⟩
      rw [List.foldl_cons, h3, insN_mem, insN_mem]
      constructor
      · rintro ((h | h | h) | ⟨s, hs, h⟩)
        · exact .inr ⟨r, List.mem_cons_self, .inr h⟩
        · exact .inr ⟨r, List.mem_cons_self, .inl h⟩
        · exact .inl h
        · exact .inr ⟨s, List.mem_cons_of_mem _ hs, h⟩
      · rintro (h | ⟨s, hs, h⟩)
        · exact .inl (.inr (.inr h))
        · rcases List.mem_cons.1 hs with rfl | hs
          · rcases h with h | h
            · exact .inl (.inr (.inl h))
            · exact .inl (.inl h)
          · exact .inr ⟨s, hs, h⟩
  obtain ⟨h1, h2, h3⟩ := key a [] List.Pairwise.nil
  exact ⟨h1, by rw [List.length_nil, Nat.zero_add] at h2; exact h2, fun m => by rw [edN, h3]; simp⟩
def mixS (out : List Rg) (x y : Int) (inn : Bool) : List Rg := if inn = true then (if endAt out x = true then setTo out y else out ++ [⟨x, y⟩]) else out
def mixN (a : List Rg) (es : List Int) : Nat → List Rg
  | 0 => []
  | i + 1 => match es[i]?, es[i + 1]? with | some x, some y => mixS (mixN a es i) x y (cov a x) | _, _ => mixN a es i
theorem mixN_succ {a : List Rg} {es : List Int} {i : Nat} {x y : Int} (hx : es[i]? = some x) (hy : es[i + 1]? = some y) : mixN a es (i + 1) = mixS (mixN a es i) x y (cov a x) := by
  rw [mixN, hx, hy]
theorem mixN_len (a : List Rg) (es : List Int) : ∀ i, (mixN a es i).length ≤ i
  | 0 => Nat.le_refl _
  | i + 1 => by
    have ih := mixN_len a es i
    unfold mixN
    split
    · unfold mixS
      split
      · split
        · rw [setTo_len]; omega
        · simp; omega
      · omega
    · omega
theorem canon_split : ∀ {D : List Rg} {r : Rg}, canon (D ++ [r]) → canon D ∧ r.fr < r.to ∧ ∀ s ∈ D, s.to < r.fr
  | [], r, h => ⟨trivial, h.1, by simp⟩
  | d :: D, r, h => by
    obtain ⟨h1, h2, h3⟩ := canon_split h.2.2
    refine ⟨⟨h.1, fun s hs => h.2.1 s (List.mem_append.2 (.inl hs)), h1⟩, h2, fun s hs => ?_⟩
    rcases List.mem_cons.1 hs with rfl | hs
    · exact h.2.1 r (List.mem_append.2 (.inr List.mem_cons_self))
    · exact h3 s hs
theorem cov_same {a : List Rg} {x m : Int} (h : ∀ r ∈ a, (clamp r.fr ≤ m ↔ clamp r.fr ≤ x) ∧ (m < clamp r.to ↔ x < clamp r.to)) : cov a m = cov a x := by
  unfold cov
  rw [Bool.eq_iff_iff, List.any_eq_true, List.any_eq_true]
  constructor
  · rintro ⟨r, hr, hh⟩
    refine ⟨r, hr, ?_⟩
    unfold hit at hh ⊢
    simp only [Bool.and_eq_true, decide_eq_true_eq] at hh ⊢
    exact ⟨(h r hr).1.1 hh.1, (h r hr).2.1 hh.2⟩
  · rintro ⟨r, hr, hh⟩
    refine ⟨r, hr, ?_⟩
    unfold hit at hh ⊢
    simp only [Bool.and_eq_true, decide_eq_true_eq] at hh ⊢
    exact ⟨(h r hr).1.2 hh.1, (h r hr).2.2 hh.2⟩
theorem lt_get {es : List Int} (hs : es.Pairwise (· < ·)) {i j : Nat} {x y : Int} (hi : es[i]? = some x) (hj : es[j]? = some y) (h : i < j) : x < y := by
  obtain ⟨h1, e1⟩ := List.getElem?_eq_some_iff.1 hi
  obtain ⟨h2, e2⟩ := List.getElem?_eq_some_iff.1 hj
  rw [List.pairwise_iff_getElem] at hs
  rw [← e1, ← e2]
  exact hs i j h1 h2 h
theorem gap {es : List Int} (hs : es.Pairwise (· < ·)) {i : Nat} {x y z : Int} (hx : es[i]? = some x) (hy : es[i + 1]? = some y) (hz : z ∈ es) : z ≤ x ∨ y ≤ z := by
  obtain ⟨j, hj⟩ := List.getElem?_of_mem hz
  rcases Nat.lt_trichotomy j i with h | h | h
  · exact .inl (Int.le_of_lt (lt_get hs hj hx h))
  · subst h; rw [hx] at hj; injection hj with hj; exact .inl (by omega)
  · rcases Nat.lt_or_ge (i + 1) j with h2 | h2
    · exact .inr (Int.le_of_lt (lt_get hs hy hj h2))
    · obtain rfl : j = i + 1 := by omega
      rw [hy] at hj; injection hj with hj; exact .inr (by omega)
theorem cov_gap {a : List Rg} {es : List Int} (hs : es.Pairwise (· < ·)) (he : ∀ m, m ∈ es ↔ ∃ r ∈ a, m = clamp r.fr ∨ m = clamp r.to) {i : Nat} {x y : Int} (hx : es[i]? = some x) (hy : es[i + 1]? = some y) {m : Int} (h1 : x ≤ m) (h2 : m < y) : cov a m = cov a x := by
  refine cov_same fun r hr => ?_
  have g1 := gap hs hx hy ((he _).2 ⟨r, hr, .inl rfl⟩)
  have g2 := gap hs hx hy ((he _).2 ⟨r, hr, .inr rfl⟩)
  omega
theorem cov_ex {a : List Rg} {m : Int} (h : cov a m = true) : ∃ r ∈ a, clamp r.fr ≤ m ∧ m < clamp r.to := by
  unfold cov at h
  obtain ⟨r, hr, hh⟩ := List.any_eq_true.1 h
  unfold hit at hh
  simp only [Bool.and_eq_true, decide_eq_true_eq] at hh
  exact ⟨r, hr, hh⟩
theorem edN_in {a : List Rg} {m : Int} (h : m ∈ edN a) : -Mx ≤ m ∧ m ≤ Mx := by
  obtain ⟨r, _, h | h⟩ := ((edN_all a).2.2 m).1 h
  · rw [h]; exact clamp_in _
  · rw [h]; exact clamp_in _
theorem mix_inv (a : List Rg) : ∀ (i : Nat) (x : Int), (edN a)[i]? = some x → canon (mixN a (edN a) i) ∧ inB (mixN a (edN a) i) ∧ (∀ r ∈ mixN a (edN a) i, r.to ≤ x) ∧ ∀ m, mem (mixN a (edN a) i) m ↔ m < x ∧ cov a m = true := by
  obtain ⟨hs, _, he⟩ := edN_all a
  intro i
  induction i with
  | zero =>
    intro x hx
    refine ⟨trivial, by simp [mixN, inB], by simp [mixN], fun m => ?_⟩
    constructor
    · rintro ⟨s, hs, _⟩; simp [mixN] at hs
    · rintro ⟨h1, h2⟩
      obtain ⟨r, hr, h3, _⟩ := cov_ex h2
      obtain ⟨j, hj⟩ := List.getElem?_of_mem ((he (clamp r.fr)).2 ⟨r, hr, .inl rfl⟩)
      rcases Nat.eq_zero_or_pos j with rfl | hj0
      · rw [hx] at hj; injection hj with hj; omega
      · have := lt_get hs hx hj hj0; omega
  | succ i ih =>
    intro y hy
    have hil : i + 1 < (edN a).length := (List.getElem?_eq_some_iff.1 hy).1
    obtain ⟨x, hx⟩ : ∃ x, (edN a)[i]? = some x := ⟨_, List.getElem?_eq_getElem (by omega)⟩
    obtain ⟨h1, h2, h3, h4⟩ := ih x hx
    have hxy := lt_get hs hx hy (by omega)
    have hbx := edN_in (List.mem_of_getElem? hx)
    have hby := edN_in (List.mem_of_getElem? hy)
    have hg : ∀ m, x ≤ m → m < y → cov a m = cov a x := fun m m1 m2 => cov_gap hs he hx hy m1 m2
    rw [mixN_succ hx hy]
    generalize mixN a (edN a) i = out at h1 h2 h3 h4 ⊢
    unfold mixS
    cases hc : cov a x with
    | false =>
      rw [if_neg (by simp)]
      refine ⟨h1, h2, fun r hr => by have := h3 r hr; omega, fun m => ?_⟩
      rw [h4]
      constructor
      · rintro ⟨q1, q2⟩; exact ⟨by omega, q2⟩
      · rintro ⟨q1, q2⟩
        refine ⟨?_, q2⟩
        rcases Int.lt_or_le m x with q | q
        · exact q
        · rw [hg m q q1, hc] at q2; cases q2
    | true =>
      rw [if_pos rfl]
      have fin : ∀ m, (mem out m ∨ (x ≤ m ∧ m < y)) ↔ m < y ∧ cov a m = true := fun m => by
        rw [h4]
        constructor
        · rintro (⟨q1, q2⟩ | ⟨q1, q2⟩)
          · exact ⟨by omega, q2⟩
          · exact ⟨q2, by rw [hg m q1 q2, hc]⟩
        · rintro ⟨q1, q2⟩
          rcases Int.lt_or_le m x with q | q
          · exact .inl ⟨q, q2⟩
          · exact .inr ⟨q, q1⟩
      rcases List.eq_nil_or_concat out with rfl | ⟨D, r, ho⟩
      · have e0 : endAt [] x = false := rfl
        rw [e0, if_neg (by simp), List.nil_append]
        refine ⟨⟨hxy, by simp, trivial⟩, fun s hs => ?_, fun s hs => ?_, fun m => ?_⟩
        · rw [List.mem_singleton.1 hs]; exact ⟨hbx.1, hby.2⟩
        · rw [List.mem_singleton.1 hs]; exact Int.le_refl _
        · rw [← fin m, mem_cons]
          constructor
          · rintro (h | h)
            · exact .inr h
            · exact .inl h
          · rintro (h | h)
            · exact .inr h
            · exact .inl h
      · rw [List.concat_eq_append] at ho
        subst ho
        obtain ⟨k1, k2, k3⟩ := canon_split h1
        have hrt := h3 r (by simp)
        have e0 : endAt (D ++ [r]) x = (r.to == x) := by unfold endAt; rw [last_app]
        rw [e0]
        by_cases hrx : r.to = x
        · rw [if_pos (by simpa using hrx), setTo_app]
          refine ⟨canon_snoc k1 (show r.fr < y by omega) k3, fun s hs => ?_, fun s hs => ?_, fun m => ?_⟩
          · rcases List.mem_append.1 hs with hs | hs
            · exact h2 s (List.mem_append.2 (.inl hs))
            · rw [List.mem_singleton.1 hs]; exact ⟨(h2 r (by simp)).1, hby.2⟩
          · rcases List.mem_append.1 hs with hs | hs
            · have := h3 s (List.mem_append.2 (.inl hs)); omega
            · rw [List.mem_singleton.1 hs]; exact Int.le_refl _
          · rw [← fin m, mem_snoc, mem_snoc]
            constructor
            · rintro (h | ⟨q1, q2⟩)
              · exact .inl (.inl h)
              · simp only at q1 q2
                rcases Int.lt_or_le m x with q | q
                · exact .inl (.inr ⟨q1, by omega⟩)
                · exact .inr ⟨q, q2⟩
            · rintro ((h | ⟨q1, q2⟩) | ⟨q1, q2⟩)
              · exact .inl h
              · exact .inr ⟨q1, by simp only; omega⟩
              · exact .inr ⟨by simp only; omega, q2⟩
        · rw [if_neg (by simpa using hrx)]
          refine ⟨canon_snoc h1 hxy fun s hs => ?_, fun s hs => ?_, fun s hs => ?_, fun m => ?_⟩
          · rcases List.mem_append.1 hs with hs | hs
            · have := k3 s hs; simp only; omega
            · rw [List.mem_singleton.1 hs]; simp only; omega
          · rcases List.mem_append.1 hs with hs | hs
            · exact h2 s hs
            · rw [List.mem_singleton.1 hs]; exact ⟨hbx.1, hby.2⟩
          · rcases List.mem_append.1 hs with hs | hs
            · have := h3 s hs; omega
            · rw [List.mem_singleton.1 hs]; exact Int.le_refl _
          · rw [← fin m, mem_snoc]
theorem mix_set (a : List Rg) : isSet tOr a [] (mixN a (edN a) ((edN a).length - 1)) := by
  obtain ⟨hs, _, he⟩ := edN_all a
  have ht : ∀ n, tOr (cov a n) (cov [] n) = cov a n := fun n => by rw [cov_nil]; cases cov a n <;> rfl
  rcases Nat.eq_zero_or_pos (edN a).length with h0 | h0
  · have hn : edN a = [] := List.length_eq_zero_iff.1 h0
    rw [h0]
    refine ⟨trivial, by simp [mixN, inB], fun n => ?_⟩
    rw [ht]
    constructor
    · rintro ⟨s, hs, _⟩; simp [mixN] at hs
    · intro h
      obtain ⟨r, hr, _⟩ := cov_ex h
      have := (he (clamp r.fr)).2 ⟨r, hr, .inl rfl⟩
      rw [hn] at this; cases this
  · obtain ⟨x, hx⟩ : ∃ x, (edN a)[(edN a).length - 1]? = some x := ⟨_, List.getElem?_eq_getElem (by omega)⟩
    obtain ⟨h1, h2, h3, h4⟩ := mix_inv a _ x hx
    refine ⟨h1, h2, fun n => ?_⟩
    rw [ht, h4]
    constructor
    · exact fun h => h.2
    · intro h
      refine ⟨?_, h⟩
      obtain ⟨r, hr, _, q⟩ := cov_ex h
      obtain ⟨j, hj⟩ := List.getElem?_of_mem ((he (clamp r.to)).2 ⟨r, hr, .inr rfl⟩)
      have hjl := (List.getElem?_eq_some_iff.1 hj).1
      rcases Nat.lt_or_ge j ((edN a).length - 1) with hlt | hge
      · have := lt_get hs hj hx hlt; omega
      · have : j = (edN a).length - 1 := by omega
        subst this
        rw [hx] at hj; injection hj with hj; omega
end Go.Proofs.Ytcejgadbpahbmaa.Ra
end
section
namespace Go.Proofs.Ytcejgadbpahbmaa
open Go.RowKit Sz
set_option maxHeartbeats 16000000
set_option maxRecDepth 20000
namespace Rc
-- almshouse/almshouseref51.Clamp (1 parameters)
def x90 : XC := (.seq (.tree (.seq ⟨some 2, none, (.ofA (.mv (.cst (.v (.int .i64 0)))))⟩
 .done))
 (.seq (.seq (.tree (.seq ⟨some 3, none, (.ofA (.mv (.tmp 0)))⟩
 (.seq ⟨some 4, none, (.ofA (.bin .lss (.tmp 3) (.cst (.v (.int .i64 (-1099511627776))))))⟩
 .done)))
 (.cond (.tmp 4)
 (.seq (.tree (.seq ⟨some 2, none, (.ofA (.mv (.cst (.v (.int .i64 (-1099511627776))))))⟩
 .done))
 .ret)
 .skip))
 (.seq (.seq (.tree (.seq ⟨some 5, none, (.ofA (.mv (.tmp 0)))⟩
 (.seq ⟨some 6, none, (.ofA (.bin .gtr (.tmp 5) (.cst (.v (.int .i64 1099511627776)))))⟩
 .done)))
 (.cond (.tmp 6)
 (.seq (.tree (.seq ⟨some 2, none, (.ofA (.mv (.cst (.v (.int .i64 1099511627776)))))⟩
 .done))
 .ret)
 .skip))
 (.seq (.tree (.seq ⟨some 7, none, (.ofA (.mv (.tmp 0)))⟩
 (.seq ⟨some 2, none, (.ofA (.mv (.tmp 7)))⟩
 .done)))
 .ret))))
def r90 : List XR := [.tmp 2]
theorem fn90 : FnX Try.prog 90 [92] 8 x90 r90 := ⟨_, Try.func90, by kernel_rfl, by kernel_rfl, by kernel_rfl, by kernel_rfl⟩
-- almshouse/almshouseref51.Has (2 parameters)
def x57 : XC := (.seq (.tree (.seq ⟨some 4, none, (.ofA (.mv (.cst (.v (.bool false)))))⟩
 .done))
 (.seq (.seq (.tree (.seq ⟨some 7, none, (.ofA (.mv (.tmp 0)))⟩
 (.seq ⟨some 8, none, (.ofA (.len (.tmp 7)))⟩
 (.seq ⟨some 9, none, (.ofA (.mv (.cst (.v (.int .i64 0)))))⟩
 .done))))
 (.block 0 (.loop (.seq (.tree (.seq ⟨some 10, none, (.ofA (.bin .lss (.tmp 9) (.tmp 8)))⟩
 .done))
 (.seq (.cond (.tmp 10)
 .skip
 (.exit 0))
 (.seq (.block 1 (.seq (.tree (.seq ⟨some 11, none, (.ofA (.isl 2 (.tmp 7) (.tmp 9)))⟩
 (.seq ⟨some 12, none, (.ofA (.load (some 2) (.tmp 11)))⟩
 (.seq ⟨some 6, none, (.alloc [(.v (.int .i64 0)), (.v (.int .i64 0))])⟩
 (.seq ⟨none, none, (.store 2 (.tmp 6) (.tmp 12))⟩
 .done)))))
 (.seq (.tree (.seq ⟨some 13, none, (.ofA (.faddr 0 (.tmp 6)))⟩
 (.seq ⟨some 14, none, (.ofA (.load none (.tmp 13)))⟩
 (.seq ⟨some 15, none, (.call (.cst (.fn 90 [])) [(.tmp 14)])⟩
 (.seq ⟨some 16, none, (.ofA (.mv (.tmp 1)))⟩
 (.seq ⟨some 17, none, (.ofA (.bin .leq (.tmp 15) (.tmp 16)))⟩
 (.seq ⟨some 18, none, (.ofA (.mv (.tmp 17)))⟩
 (.seq ⟨some 19, some (18, true), (.ofA (.mv (.tmp 1)))⟩
 (.seq ⟨some 20, some (18, true), (.ofA (.faddr 1 (.tmp 6)))⟩
 (.seq ⟨some 21, some (18, true), (.ofA (.load none (.tmp 20)))⟩
 (.seq ⟨some 22, some (18, true), (.call (.cst (.fn 90 [])) [(.tmp 21)])⟩
 (.seq ⟨some 23, some (18, true), (.ofA (.bin .lss (.tmp 19) (.tmp 22)))⟩
 (.seq ⟨some 24, none, (.ofA (.pick (.tmp 18) (.tmp 23) (.cst (.v (.bool false)))))⟩
 .done)))))))))))))
 (.cond (.tmp 24)
 (.seq (.tree (.seq ⟨some 4, none, (.ofA (.mv (.cst (.v (.bool true)))))⟩
 .done))
 .ret)
 .skip))))
 (.tree (.seq ⟨some 25, none, (.ofA (.bin .add (.tmp 9) (.cst (.v (.int .i64 1)))))⟩
 (.seq ⟨some 9, none, (.ofA (.mv (.tmp 25)))⟩
 .done)))))))))
 (.seq (.tree (.seq ⟨some 4, none, (.ofA (.mv (.cst (.v (.bool false)))))⟩
 .done))
 .ret)))
def r57 : List XR := [.tmp 4]
theorem fn57 : FnX Try.prog 57 [92] 26 x57 r57 := ⟨_, Try.func57, by kernel_rfl, by kernel_rfl, by kernel_rfl, by kernel_rfl⟩
-- almshouse/almshouseref51.Edges (1 parameters)
def x56 : XC := (.seq (.tree (.seq ⟨some 2, none, (.ofA (.mv (.cst (.v (.slice none 0 0)))))⟩
 .done))
 (.seq (.tree (.seq ⟨some 3, none, (.ofA (.mv (.cst (.v (.slice none 0 0)))))⟩
 .done))
 (.seq (.seq (.tree (.seq ⟨some 11, none, (.ofA (.mv (.tmp 0)))⟩
 (.seq ⟨some 12, none, (.ofA (.len (.tmp 11)))⟩
 (.seq ⟨some 13, none, (.ofA (.mv (.cst (.v (.int .i64 0)))))⟩
 .done))))
 (.block 0 (.loop (.seq (.tree (.seq ⟨some 14, none, (.ofA (.bin .lss (.tmp 13) (.tmp 12)))⟩
 .done))
 (.seq (.cond (.tmp 14)
 .skip
 (.exit 0))
 (.seq (.block 1 (.seq (.tree (.seq ⟨some 15, none, (.ofA (.isl 1 (.tmp 11) (.tmp 13)))⟩
 (.seq ⟨some 16, none, (.ofA (.load none (.tmp 15)))⟩
 (.seq ⟨some 5, none, (.ofA (.mv (.tmp 16)))⟩
 .done))))
 (.seq (.tree (.seq ⟨some 17, none, (.ofA (.mv (.tmp 5)))⟩
 (.seq ⟨some 18, none, (.ofA (.len (.tmp 17)))⟩
 (.seq ⟨some 19, none, (.ofA (.mv (.cst (.v (.int .i64 0)))))⟩
 .done))))
 (.block 2 (.loop (.seq (.tree (.seq ⟨some 20, none, (.ofA (.bin .lss (.tmp 19) (.tmp 18)))⟩
 .done))
 (.seq (.cond (.tmp 20)
 .skip
 (.exit 2))
 (.seq (.block 3 (.seq (.tree (.seq ⟨some 21, none, (.ofA (.isl 2 (.tmp 17) (.tmp 19)))⟩
 (.seq ⟨some 22, none, (.ofA (.load (some 2) (.tmp 21)))⟩
 (.seq ⟨some 7, none, (.alloc [(.v (.int .i64 0)), (.v (.int .i64 0))])⟩
 (.seq ⟨none, none, (.store 2 (.tmp 7) (.tmp 22))⟩
 .done)))))
 (.seq (.tree (.take ⟨some 23, none, (.ofA (.faddr 0 (.tmp 7)))⟩
 (.take ⟨some 24, none, (.ofA (.load none (.tmp 23)))⟩
 (.take ⟨some 26, none, (.ofA (.faddr 1 (.tmp 7)))⟩
 (.take ⟨some 27, none, (.ofA (.load none (.tmp 26)))⟩
 (.take ⟨some 31, none, (.ofA (.mv (.cst (.v (.int .i64 0)))))⟩
 (.act true [(⟨some 25, none, (.call (.cst (.fn 90 [])) [(.tmp 24)])⟩,
 (.act true [(⟨some 28, none, (.call (.cst (.fn 90 [])) [(.tmp 27)])⟩,
 (.act true [(⟨some 29, none, (.buildSl 1 2 [(.v (.int .i64 0)), (.v (.int .i64 0))] [(0, 1, (.tmp 25)), (1, 1, (.tmp 28))])⟩,
 (.take ⟨some 30, none, (.ofA (.len (.tmp 29)))⟩
 .done))]))]))])))))))
 (.block 4 (.loop (.seq (.tree (.seq ⟨some 32, none, (.ofA (.bin .lss (.tmp 31) (.tmp 30)))⟩
 .done))
 (.seq (.cond (.tmp 32)
 .skip
 (.exit 4))
 (.seq (.block 5 (.seq (.tree (.seq ⟨some 33, none, (.ofA (.isl 1 (.tmp 29) (.tmp 31)))⟩
 (.seq ⟨some 34, none, (.ofA (.load none (.tmp 33)))⟩
 (.seq ⟨some 9, none, (.ofA (.mv (.tmp 34)))⟩
 .done))))
 (.seq (.tree (.seq ⟨some 10, none, (.ofA (.mv (.cst (.v (.int .i64 0)))))⟩
 .done))
 (.seq (.block 6 (.loop (.seq (.seq (.tree (.seq ⟨some 35, none, (.ofA (.mv (.tmp 10)))⟩
 (.seq ⟨some 36, none, (.ofA (.mv (.tmp 3)))⟩
 (.seq ⟨some 37, none, (.ofA (.len (.tmp 36)))⟩
 (.seq ⟨some 38, none, (.ofA (.bin .lss (.tmp 35) (.tmp 37)))⟩
 (.seq ⟨some 39, none, (.ofA (.mv (.tmp 38)))⟩
 (.seq ⟨some 40, some (39, true), (.ofA (.mv (.tmp 3)))⟩
 (.seq ⟨some 41, some (39, true), (.ofA (.mv (.tmp 10)))⟩
 (.seq ⟨some 42, some (39, true), (.ofA (.isl 1 (.tmp 40) (.tmp 41)))⟩
 (.seq ⟨some 43, some (39, true), (.ofA (.load none (.tmp 42)))⟩
 (.seq ⟨some 44, some (39, true), (.ofA (.mv (.tmp 9)))⟩
 (.seq ⟨some 45, some (39, true), (.ofA (.bin .lss (.tmp 43) (.tmp 44)))⟩
 (.seq ⟨some 46, none, (.ofA (.pick (.tmp 39) (.tmp 45) (.cst (.v (.bool false)))))⟩
 .done)))))))))))))
 (.cond (.tmp 46)
 .skip
 (.exit 6)))
 (.block 7 (.tree (.seq ⟨some 47, none, (.ofA (.mv (.tmp 10)))⟩
 (.seq ⟨some 48, none, (.ofA (.bin .add (.tmp 47) (.cst (.v (.int .i64 1)))))⟩
 (.seq ⟨some 10, none, (.ofA (.mv (.tmp 48)))⟩
 .done))))))))
 (.seq (.tree (.seq ⟨some 49, none, (.ofA (.mv (.tmp 10)))⟩
 (.seq ⟨some 50, none, (.ofA (.mv (.tmp 3)))⟩
 (.seq ⟨some 51, none, (.ofA (.len (.tmp 50)))⟩
 (.seq ⟨some 52, none, (.ofA (.bin .eql (.tmp 49) (.tmp 51)))⟩
 (.seq ⟨some 53, none, (.ofA (.mv (.tmp 52)))⟩
 (.seq ⟨some 54, some (53, false), (.ofA (.mv (.tmp 3)))⟩
 (.seq ⟨some 55, some (53, false), (.ofA (.mv (.tmp 10)))⟩
 (.seq ⟨some 56, some (53, false), (.ofA (.isl 1 (.tmp 54) (.tmp 55)))⟩
 (.seq ⟨some 57, some (53, false), (.ofA (.load none (.tmp 56)))⟩
 (.seq ⟨some 58, some (53, false), (.ofA (.mv (.tmp 9)))⟩
 (.seq ⟨some 59, some (53, false), (.ofA (.bin .neq (.tmp 57) (.tmp 58)))⟩
 (.seq ⟨some 60, none, (.ofA (.pick (.tmp 53) (.cst (.v (.bool true))) (.tmp 59)))⟩
 .done)))))))))))))
 (.cond (.tmp 60)
 (.tree (.take ⟨some 62, none, (.ofA (.mv (.tmp 3)))⟩
 (.take ⟨some 63, none, (.ofA (.mv (.tmp 10)))⟩
 (.take ⟨some 64, none, (.ofA (.slc 1 (.tmp 62) none (some (.tmp 63))))⟩
 (.take ⟨some 66, none, (.ofA (.mv (.tmp 9)))⟩
 (.take ⟨some 69, none, (.ofA (.mv (.tmp 3)))⟩
 (.take ⟨some 70, none, (.ofA (.mv (.tmp 10)))⟩
 (.take ⟨some 71, none, (.ofA (.slc 1 (.tmp 69) (some (.tmp 70)) none))⟩
 (.alt [true, true] [(⟨some 61, none, (.buildSl 1 0 [] [])⟩,
 (.alt [false, true] [(⟨some 65, none, (.app 1 8 (.tmp 61) (.tmp 64))⟩,
 (.alt [true] [(⟨some 67, none, (.buildSl 1 1 [(.v (.int .i64 0))] [(0, 1, (.tmp 66))])⟩,
 (.alt [false] [(⟨some 68, none, (.app 1 8 (.tmp 65) (.tmp 67))⟩,
 (.alt [false] [(⟨some 72, none, (.app 1 8 (.tmp 68) (.tmp 71))⟩,
 (.take ⟨some 3, none, (.ofA (.mv (.tmp 72)))⟩
 .done))]))]))])), (⟨some 67, none, (.buildSl 1 1 [(.v (.int .i64 0))] [(0, 1, (.tmp 66))])⟩,
 (.alt [false] [(⟨some 65, none, (.app 1 8 (.tmp 61) (.tmp 64))⟩,
 (.alt [false] [(⟨some 68, none, (.app 1 8 (.tmp 65) (.tmp 67))⟩,
 (.alt [false] [(⟨some 72, none, (.app 1 8 (.tmp 68) (.tmp 71))⟩,
 (.take ⟨some 3, none, (.ofA (.mv (.tmp 72)))⟩
 .done))]))]))]))])), (⟨some 67, none, (.buildSl 1 1 [(.v (.int .i64 0))] [(0, 1, (.tmp 66))])⟩,
 (.alt [true] [(⟨some 61, none, (.buildSl 1 0 [] [])⟩,
 (.alt [false] [(⟨some 65, none, (.app 1 8 (.tmp 61) (.tmp 64))⟩,
 (.alt [false] [(⟨some 68, none, (.app 1 8 (.tmp 65) (.tmp 67))⟩,
 (.alt [false] [(⟨some 72, none, (.app 1 8 (.tmp 68) (.tmp 71))⟩,
 (.take ⟨some 3, none, (.ofA (.mv (.tmp 72)))⟩
 .done))]))]))]))]))])))))))))
 .skip))))))
 (.tree (.seq ⟨some 73, none, (.ofA (.bin .add (.tmp 31) (.cst (.v (.int .i64 1)))))⟩
 (.seq ⟨some 31, none, (.ofA (.mv (.tmp 73)))⟩
 .done)))))))))))
 (.tree (.seq ⟨some 74, none, (.ofA (.bin .add (.tmp 19) (.cst (.v (.int .i64 1)))))⟩
 (.seq ⟨some 19, none, (.ofA (.mv (.tmp 74)))⟩
 .done)))))))))))
 (.tree (.seq ⟨some 75, none, (.ofA (.bin .add (.tmp 13) (.cst (.v (.int .i64 1)))))⟩
 (.seq ⟨some 13, none, (.ofA (.mv (.tmp 75)))⟩
 .done)))))))))
 (.seq (.tree (.seq ⟨some 76, none, (.ofA (.mv (.tmp 3)))⟩
 (.seq ⟨some 2, none, (.ofA (.mv (.tmp 76)))⟩
 .done)))
 .ret))))
def r56 : List XR := [.tmp 2]
theorem fn56 : FnX Try.prog 56 [92] 77 x56 r56 := ⟨_, Try.func56, by kernel_rfl, by kernel_rfl, by kernel_rfl, by kernel_rfl⟩
def c90 [Inp] : Trans := fun args m k => ∃ n : Int, args = [.v (.int .i64 n)] ∧ k (.v (.int .i64 (Ra.clamp n))) m
theorem a90 [Inp] {n : Int} {m : Mem} {k : SV → Mem → Prop} : c90 [.v (.int .i64 n)] m k = k (.v (.int .i64 (Ra.clamp n))) m := by
  unfold c90
  simp
theorem c90_ok [Inp] : Contract Try.prog 90 true c90 := by
  refine .plainArgs fn90 (g0 _) _ fun args m k h => ?_
  obtain ⟨n, rfl, hk⟩ := h
  refine ⟨by simp [plainL, SV.plain], by simp, ?_⟩
  by_cases h1 : n < -1099511627776
  · have e : Ra.clamp n = -1099511627776 := by unfold Ra.clamp Ra.Mx; omega
    rw [e] at hk
    simp (maxSteps := 2000000) -implicitDefEqProofs only [↓x90, ↓r90, h1, s_alt, s_alt20, s_alt2t, s_alt2f, ↓s_loopi, ↓v_pq, ↓PRE, POST, CORE, Nat.reduceDiv, Nat.reduceMod, Int.reduceLT, Int.reduceLE, Int.reduceToNat, Int.reduceAdd, ↓reduceIte, Nat.reduceEqDiff, Nat.reduceAdd, Nat.reduceMul, Nat.reduceSub, Nat.reduceLeDiff, Nat.reduceLT, reduceCtorEq, if_true, eq_self, forall_const, implies_true]
    exact hk
  by_cases h2 : (1099511627776 : Int) < n
  · have e : Ra.clamp n = 1099511627776 := by unfold Ra.clamp Ra.Mx; omega
    rw [e] at hk
    simp (maxSteps := 2000000) -implicitDefEqProofs only [↓x90, ↓r90, h1, gt_iff_lt, h2, s_alt, s_alt20, s_alt2t, s_alt2f, ↓s_loopi, ↓v_pq, ↓PRE, POST, CORE, Nat.reduceDiv, Nat.reduceMod, Int.reduceLT, Int.reduceLE, Int.reduceToNat, Int.reduceAdd, ↓reduceIte, Nat.reduceEqDiff, Nat.reduceAdd, Nat.reduceMul, Nat.reduceSub, Nat.reduceLeDiff, Nat.reduceLT, reduceCtorEq, if_true, eq_self, forall_const, implies_true]
    exact hk
  · have e : Ra.clamp n = n := by unfold Ra.clamp Ra.Mx; omega
    rw [e] at hk
    simp (maxSteps := 2000000) -implicitDefEqProofs only [↓x90, ↓r90, h1, gt_iff_lt, h2, s_alt, s_alt20, s_alt2t, s_alt2f, ↓s_loopi, ↓v_pq, ↓PRE, POST, CORE, Nat.reduceDiv, Nat.reduceMod, Int.reduceLT, Int.reduceLE, Int.reduceToNat, Int.reduceAdd, ↓reduceIte, Nat.reduceEqDiff, Nat.reduceAdd, Nat.reduceMul, Nat.reduceSub, Nat.reduceLeDiff, Nat.reduceLT, reduceCtorEq, if_true, eq_self, forall_const, implies_true]
    exact hk
theorem s90 [Inp] : GOk Try.prog [⟨90, true, c90⟩] := GOk.cons c90_ok (g0 _)
def c57 [Inp] : Trans := fun args m k => ∃ (s : SV) (l : List Ra.Rg) (n : Int), args = [s, .v (.int .i64 n)] ∧ rdG m s = some l ∧ l.length ≤ 100000 ∧ k (.v (.bool (Ra.cov l n))) m
theorem c57_ok [I : Inp] : Contract Try.prog 57 true c57 := by
  refine .read fn57 (G := fun J => [⟨90, true, @c90 J⟩]) (fun J => @s90 J) _ fun args m k h => ?_
  obtain ⟨s, l, n, rfl, hl, hmax, hk⟩ := h
  refine ⟨by simp, fun J hJ us hus => ?_⟩
  obtain ⟨u, t1, rfl, hu1, u2, t2, rfl, hu2, rfl⟩ := hus
  obtain rfl := hu2.1 _ rfl
  obtain ⟨p, cc, rfl, hin⟩ := rdG_knows hl hu1
  rw [List.map_cons, List.map_cons, List.map_nil, of_sl, of_int]
  simp (maxSteps := 2000000) -implicitDefEqProofs only [↓x57, ↓r57, s_alt, s_alt20, s_alt2t, s_alt2f, ↓s_loopi, ↓v_pq, ↓PRE, POST, CORE, Nat.reduceDiv, Nat.reduceMod, Int.reduceLT, Int.reduceLE, Int.reduceToNat, Int.reduceAdd, ↓reduceIte, Nat.reduceEqDiff, Nat.reduceAdd, Nat.reduceMul, Nat.reduceSub, Nat.reduceLeDiff, Nat.reduceLT, reduceCtorEq, if_true, eq_self, forall_const, implies_true]
  refine TXi_of (TX_count (@s90 J) l.length (fun x => [(1, .v (.int .i64 n)), (7, .v (.slice p l.length cc)), (8, .v (.int .i64 (l.length : Int))), (9, .v (.int .i64 (x : Int)))]) (fun x => []) (fun x => ((l.take x).any fun r => Ra.hit r n) = false) rfl ?_ ?_ ?_)
  · exact (by refine ⟨[], by simp [NdL, NdA, oO_cells, oO_own, iL_nil], ?_, ?_, keep0 hJ⟩ <;> simp only [FitM, FitE, ObLe, LeL, Le, List.cons_append, List.nil_append] <;> (try (simp (maxSteps := 2000000) -implicitDefEqProofs only [s_alt, s_alt20, s_alt2t, s_alt2f, ↓s_loopi, ↓v_pq, ↓PRE, POST, CORE, Nat.reduceDiv, Nat.reduceMod, Int.reduceLT, Int.reduceLE, Int.reduceToNat, Int.reduceAdd, ↓reduceIte, Nat.reduceEqDiff, Nat.reduceAdd, Nat.reduceMul, Nat.reduceSub, Nat.reduceLeDiff, Nat.reduceLT, reduceCtorEq, if_true, eq_self, forall_const, implies_true])) <;> (try simp only [Sz.Le, Sz.LeL, List.getElem?_cons_zero, List.getElem?_cons_succ]) <;> (try simp))
  · intro x hx hI
    obtain ⟨r, hr⟩ : ∃ r, l[x]? = some r := ⟨_, List.getElem?_eq_getElem hx⟩
    have hp : p.isSome = true := inpL_isSome hin (by omega)
    have f : inpL (plusA p (x * 2)) 2 = some [.int .i64 r.fr, .int .i64 r.to] := inp_item gV_len hin rfl hr
    have i0 : (0 : Int) ≤ (x : Int) := by omega
    have i1 : (x : Int) < (l.length : Int) := by omega
    have w1 : IntKind.i64.wrap ((x : Int) + 1) = (x : Int) + 1 := Sz.w_64 (by omega) (by omega)
    have hh : Ra.hit r n = (decide (Ra.clamp r.fr ≤ n) && decide (n < Ra.clamp r.to)) := rfl
    by_cases h1 : Ra.clamp r.fr ≤ n
    · by_cases h2 : n < Ra.clamp r.to
      · have hit : Ra.hit r n = true := by rw [hh, decide_eq_true h1, decide_eq_true h2]; rfl
        simp (maxSteps := 2000000) -implicitDefEqProofs only [i0, i1, hp, f, w1, ↓a90, h1, h2, s_alt, s_alt20, s_alt2t, s_alt2f, ↓s_loopi, ↓v_pq, ↓PRE, POST, CORE, Nat.reduceDiv, Nat.reduceMod, Int.reduceLT, Int.reduceLE, Int.reduceToNat, Int.reduceAdd, ↓reduceIte, Nat.reduceEqDiff, Nat.reduceAdd, Nat.reduceMul, Nat.reduceSub, Nat.reduceLeDiff, Nat.reduceLT, reduceCtorEq, if_true, eq_self, forall_const, implies_true]
        rw [show Ra.cov l n = true from any_good hr hit] at hk
        exact hk
      · have hit : Ra.hit r n = false := by rw [hh, decide_eq_false h2, Bool.and_false]
        simp (maxSteps := 2000000) -implicitDefEqProofs only [i0, i1, hp, f, w1, ↓a90, h1, h2, s_alt, s_alt20, s_alt2t, s_alt2f, ↓s_loopi, ↓v_pq, ↓PRE, POST, CORE, Nat.reduceDiv, Nat.reduceMod, Int.reduceLT, Int.reduceLE, Int.reduceToNat, Int.reduceAdd, ↓reduceIte, Nat.reduceEqDiff, Nat.reduceAdd, Nat.reduceMul, Nat.reduceSub, Nat.reduceLeDiff, Nat.reduceLT, reduceCtorEq, if_true, eq_self, forall_const, implies_true]
        exact ⟨by rw [any_snoc _ hr, hI, hit]; rfl, (by refine ⟨[], by simp [NdL, NdA, oO_cells, oO_own, iL_nil], ?_, ?_, keep0 hJ⟩ <;> simp only [FitM, FitE, ObLe, LeL, Le, List.cons_append, List.nil_append] <;> (try (simp (maxSteps := 2000000) -implicitDefEqProofs only [s_alt, s_alt20, s_alt2t, s_alt2f, ↓s_loopi, ↓v_pq, ↓PRE, POST, CORE, Nat.reduceDiv, Nat.reduceMod, Int.reduceLT, Int.reduceLE, Int.reduceToNat, Int.reduceAdd, ↓reduceIte, Nat.reduceEqDiff, Nat.reduceAdd, Nat.reduceMul, Nat.reduceSub, Nat.reduceLeDiff, Nat.reduceLT, reduceCtorEq, if_true, eq_self, forall_const, implies_true])) <;> (try simp only [Sz.Le, Sz.LeL, List.getElem?_cons_zero, List.getElem?_cons_succ]) <;> (try simp))⟩
    · have hit : Ra.hit r n = false := by rw [hh, decide_eq_false h1, Bool.false_and]
      simp (maxSteps := 2000000) -implicitDefEqProofs only [i0, i1, hp, f, w1, ↓a90, h1, s_alt, s_alt20, s_alt2t, s_alt2f, ↓s_loopi, ↓v_pq, ↓PRE, POST, CORE, Nat.reduceDiv, Nat.reduceMod, Int.reduceLT, Int.reduceLE, Int.reduceToNat, Int.reduceAdd, ↓reduceIte, Nat.reduceEqDiff, Nat.reduceAdd, Nat.reduceMul, Nat.reduceSub, Nat.reduceLeDiff, Nat.reduceLT, reduceCtorEq, if_true, eq_self, forall_const, implies_true]
      exact ⟨by rw [any_snoc _ hr, hI, hit]; rfl, (by refine ⟨[], by simp [NdL, NdA, oO_cells, oO_own, iL_nil], ?_, ?_, keep0 hJ⟩ <;> simp only [FitM, FitE, ObLe, LeL, Le, List.cons_append, List.nil_append] <;> (try (simp (maxSteps := 2000000) -implicitDefEqProofs only [s_alt, s_alt20, s_alt2t, s_alt2f, ↓s_loopi, ↓v_pq, ↓PRE, POST, CORE, Nat.reduceDiv, Nat.reduceMod, Int.reduceLT, Int.reduceLE, Int.reduceToNat, Int.reduceAdd, ↓reduceIte, Nat.reduceEqDiff, Nat.reduceAdd, Nat.reduceMul, Nat.reduceSub, Nat.reduceLeDiff, Nat.reduceLT, reduceCtorEq, if_true, eq_self, forall_const, implies_true])) <;> (try simp only [Sz.Le, Sz.LeL, List.getElem?_cons_zero, List.getElem?_cons_succ]) <;> (try simp))⟩
  · intro hI
    have j0 : ¬ (l.length : Int) < (l.length : Int) := by omega
    rw [List.take_length] at hI
    simp (maxSteps := 2000000) -implicitDefEqProofs only [j0, s_alt, s_alt20, s_alt2t, s_alt2f, ↓s_loopi, ↓v_pq, ↓PRE, POST, CORE, Nat.reduceDiv, Nat.reduceMod, Int.reduceLT, Int.reduceLE, Int.reduceToNat, Int.reduceAdd, ↓reduceIte, Nat.reduceEqDiff, Nat.reduceAdd, Nat.reduceMul, Nat.reduceSub, Nat.reduceLeDiff, Nat.reduceLT, reduceCtorEq, if_true, eq_self, forall_const, implies_true]
    rw [show Ra.cov l n = false from hI] at hk
    exact hk
theorem vL_iL (l : List Int) : vL (fun n : Int => [Value.int .i64 n]) l = iL l := by
  unfold vL rowV iL
  induction l with
  | nil => rfl
  | cons x l ih => simpa using ih
def insA (o : List Int) (n : Int) : List Int := Ra.insN n o
def fB (o : List Int) (r : Ra.Rg) : List Int := Ra.insN (Ra.clamp r.to) (Ra.insN (Ra.clamp r.fr) o)
theorem fB_len (b : List Ra.Rg) : ∀ o : List Int, (b.foldl fB o).length ≤ o.length + 2 * b.length := by
  induction b with
  | nil => intro o; simp
  | cons r b ih =>
    intro o
    rw [List.foldl_cons, List.length_cons]
    have h := ih (fB o r)
    have h1 := Ra.insN_len (Ra.clamp r.to) (Ra.insN (Ra.clamp r.fr) o)
    have h2 := Ra.insN_len (Ra.clamp r.fr) o
    unfold fB at h ⊢
    omega
theorem foldB_snoc {b : List Ra.Rg} {y : Nat} {r : Ra.Rg} (h : b[y]? = some r) (o : List Int) : (b.take (y + 1)).foldl fB o = fB ((b.take y).foldl fB o) r := by
  rw [take_snoc h, List.foldl_append]; rfl
theorem fold2 (o : List Int) (r : Ra.Rg) : [Ra.clamp r.fr, Ra.clamp r.to].foldl insA o = fB o r := rfl
theorem foldA_snoc {ns : List Int} {z : Nat} (h : z < ns.length) (o : List Int) : (ns.take (z + 1)).foldl insA o = Ra.insN (ns.getD z 0) ((ns.take z).foldl insA o) := by
  have e : ns[z]? = some (ns.getD z 0) := by rw [List.getD_eq_getElem?_getD, List.getElem?_eq_getElem h]; rfl
  rw [take_snoc e, List.foldl_append]; rfl
theorem foldA_len (ns : List Int) : ∀ o : List Int, (ns.foldl insA o).length ≤ o.length + ns.length := by
  induction ns with
  | nil => intro o; simp
  | cons n ns ih =>
    intro o
    rw [List.foldl_cons, List.length_cons]
    have h := ih (insA o n)
    have h1 := Ra.insN_len n o
    unfold insA at h ⊢
    omega
theorem nil_facts {L : List Int} (h : L = []) : rM (iL L) = [] ∧ ∀ j, rS j 1 L.length = .v (.slice none 0 0) := by subst h; exact ⟨rfl, fun _ => rfl⟩
theorem ne_facts {L : List Int} (h : L ≠ []) : rM (iL L) = [⟨true, iL L⟩] ∧ ∀ j, rS j 1 L.length = .row j 0 L.length 1 := ⟨rM_ne fun e => h (List.map_eq_nil_iff.1 e), fun _ => rS_ne fun e => h (List.length_eq_zero_iff.1 e)⟩
theorem inpz [Inp] {p : Option Addr} : inpL p 0 = some [] := if_pos rfl
theorem m1 : 1 ≤ maxLen := by unfold maxLen; omega
def c56 [Inp] : Trans := fun args m k => ∃ (s : SV) (a : List Ra.Rg) (p : Option Addr) (c : Nat), args = [s] ∧ slOf m 1 s = some (2, [.v (.slice p a.length c), .v (.slice none 0 0)]) ∧ inpL p (a.length * 2) = some (rowV gV a) ∧ a.length ≤ 1000 ∧ k (rS m.length 1 (Ra.edN a).length) (m ++ rM (iL (Ra.edN a)))
theorem c56_ok [I : Inp] : Contract Try.prog 56 true c56 := by
  refine .readI3 fn56 (G := fun J => [⟨90, true, @c90 J⟩]) (fun J => @s90 J) _ fun args m k h => ?_
  obtain ⟨s, a, p, c, rfl, hsl, hin, hmax, hk⟩ := h
  refine ⟨by simp, fun J hJ us hus hI => ?_⟩
  obtain ⟨u, t1, rfl, hu1, rfl⟩ := hus
  obtain ⟨P, C, rfl, hP⟩ := hu1.2.2 1 2 [.slice p a.length c, .slice none 0 0] hsl
  replace hin := hI _ _ _ hin
  rw [List.map_cons, List.map_nil, of_sl]
  have hPs : P.isSome = true := inpL_isSome hP (by omega)
  simp (maxSteps := 2000000) -implicitDefEqProofs only [↓x56, ↓r56, s_alt, s_alt20, s_alt2t, s_alt2f, ↓s_loopi, ↓v_pq, ↓PRE, POST, CORE, Nat.reduceDiv, Nat.reduceMod, Int.reduceLT, Int.reduceLE, Int.reduceToNat, Int.reduceAdd, ↓reduceIte, Nat.reduceEqDiff, Nat.reduceAdd, Nat.reduceMul, Nat.reduceSub, Nat.reduceLeDiff, Nat.reduceLT, reduceCtorEq, if_true, eq_self, forall_const, implies_true]
  obtain ⟨O, hO⟩ : ∃ O : Nat → List Int, O 0 = [] ∧ O 1 = Ra.edN a ∧ O 2 = Ra.edN a := ⟨fun i => if i = 0 then [] else Ra.edN a, rfl, rfl, rfl⟩
  have hOl : ∀ i, i ≤ 2 → (O i).length ≤ 2000 := fun i hi => by
    have := (Ra.edN_all a).2.1
    obtain rfl | rfl | rfl : i = 0 ∨ i = 1 ∨ i = 2 := by omega
    · rw [hO.1]; simp
    · rw [hO.2.1]; omega
    · rw [hO.2.2]; omega
  refine TXi_of (TX_count (@s90 J) 2 (fun x => [(3, rS 0 1 (O x).length), (11, .v (.slice P 2 C)), (12, .v (.int .i64 2)), (13, .v (.int .i64 (x : Int)))]) (fun x => rM (iL (O x))) (fun x => True) trivial ?_ ?_ ?_)
  · rw [hO.1, List.length_nil, rS_0, iL_nil, rM_0]
    exact (by refine ⟨[], by simp [NdL, NdA, oO_cells, oO_own, iL_nil], ?_, ?_, keep0 hJ⟩ <;> simp only [FitM, FitE, ObLe, LeL, Le, List.cons_append, List.nil_append] <;> (try (simp (maxSteps := 2000000) -implicitDefEqProofs only [s_alt, s_alt20, s_alt2t, s_alt2f, ↓s_loopi, ↓v_pq, ↓PRE, POST, CORE, Nat.reduceDiv, Nat.reduceMod, Int.reduceLT, Int.reduceLE, Int.reduceToNat, Int.reduceAdd, ↓reduceIte, Nat.reduceEqDiff, Nat.reduceAdd, Nat.reduceMul, Nat.reduceSub, Nat.reduceLeDiff, Nat.reduceLT, reduceCtorEq, if_true, eq_self, forall_const, implies_true])) <;> (try simp only [Sz.Le, Sz.LeL, List.getElem?_cons_zero, List.getElem?_cons_succ]) <;> (try simp))
  · intro x hx _
    have it : ∀ (i : Nat) (v : Value), [Value.slice p a.length c, Value.slice none 0 0][i]? = some v → inpL (plusA P i) 1 = some [v] := fun i v h => by
      have := inp_item (cs := fun v : Value => [v]) (fun _ => rfl) hP rfl h
      rwa [Nat.mul_one] at this
    obtain ⟨q, cq, b, f1, hq, hb, hOx⟩ : ∃ (q : Option Addr) (cq : Nat) (b : List Ra.Rg), inpL (plusA P x) 1 = some [.slice q b.length cq] ∧ inpL q (b.length * 2) = some (rowV gV b) ∧ b.length ≤ 1000 ∧ O (x + 1) = b.foldl fB (O x) := by
      obtain rfl | rfl : x = 0 ∨ x = 1 := by omega
      · exact ⟨p, c, a, it 0 _ rfl, hin, hmax, by rw [hO.1, hO.2.1]; rfl⟩
      · exact ⟨none, 0, [], it 1 _ rfl, rfl, by simp, by rw [hO.2.1, hO.2.2]; rfl⟩
    have i0 : (0 : Int) ≤ (x : Int) := by omega
    have i1 : (x : Int) < 2 := by omega
    have w1 : IntKind.i64.wrap ((x : Int) + 1) = (x : Int) + 1 := Sz.w_64 (by omega) (by omega)
    have hOx0 := hOl x (by omega)
    rw [hOx]
    generalize O x = L0 at hOx0 ⊢
    simp (maxSteps := 2000000) -implicitDefEqProofs only [i0, i1, hPs, f1, s_alt, s_alt20, s_alt2t, s_alt2f, ↓s_loopi, ↓v_pq, ↓PRE, POST, CORE, Nat.reduceDiv, Nat.reduceMod, Int.reduceLT, Int.reduceLE, Int.reduceToNat, Int.reduceAdd, ↓reduceIte, Nat.reduceEqDiff, Nat.reduceAdd, Nat.reduceMul, Nat.reduceSub, Nat.reduceLeDiff, Nat.reduceLT, reduceCtorEq, if_true, eq_self, forall_const, implies_true]
    refine TXi_of (TX_count (@s90 J) b.length (fun y => [(3, rS 0 1 ((b.take y).foldl fB L0).length), (11, .v (.slice P 2 C)), (12, .v (.int .i64 2)), (13, .v (.int .i64 (x : Int))), (17, .v (.slice q b.length cq)), (18, .v (.int .i64 (b.length : Int))), (19, .v (.int .i64 (y : Int)))]) (fun y => rM (iL ((b.take y).foldl fB L0))) (fun y => True) trivial ?_ ?_ ?_)
    · rw [List.take_zero, List.foldl_nil]
      by_cases hZ : L0 = []
      · obtain ⟨e4, e5⟩ := nil_facts hZ
        rw [e4, e5]
        exact (by refine ⟨[], by simp [NdL, NdA, oO_cells, oO_own, iL_nil], ?_, ?_, keep0 hJ⟩ <;> simp only [FitM, FitE, ObLe, LeL, Le, List.cons_append, List.nil_append] <;> (try (simp (maxSteps := 2000000) -implicitDefEqProofs only [iL_fold, iL_over, iL_all, iL_get, iL_len, iL_take, iL_drop, iL_one, iL_plain, iL_le, List.length_set, s_alt, s_alt20, s_alt2t, s_alt2f, ↓s_loopi, ↓v_pq, ↓PRE, POST, CORE, Nat.reduceDiv, Nat.reduceMod, Int.reduceLT, Int.reduceLE, Int.reduceToNat, Int.reduceAdd, ↓reduceIte, Nat.reduceEqDiff, Nat.reduceAdd, Nat.reduceMul, Nat.reduceSub, Nat.reduceLeDiff, Nat.reduceLT, reduceCtorEq, if_true, eq_self, forall_const, implies_true])) <;> (try simp only [Sz.Le, Sz.LeL, List.getElem?_cons_zero, List.getElem?_cons_succ]) <;> (try simp))
      · obtain ⟨e4, e5⟩ := ne_facts hZ
        rw [e4, e5]
        exact (by refine ⟨[0], by simp [NdL, NdA, oO_cells, oO_own, iL_nil], ?_, ?_, keep0 hJ⟩ <;> simp only [FitM, FitE, ObLe, LeL, Le, List.cons_append, List.nil_append] <;> (try (simp (maxSteps := 2000000) -implicitDefEqProofs only [iL_fold, iL_over, iL_all, iL_get, iL_len, iL_take, iL_drop, iL_one, iL_plain, iL_le, List.length_set, s_alt, s_alt20, s_alt2t, s_alt2f, ↓s_loopi, ↓v_pq, ↓PRE, POST, CORE, Nat.reduceDiv, Nat.reduceMod, Int.reduceLT, Int.reduceLE, Int.reduceToNat, Int.reduceAdd, ↓reduceIte, Nat.reduceEqDiff, Nat.reduceAdd, Nat.reduceMul, Nat.reduceSub, Nat.reduceLeDiff, Nat.reduceLT, reduceCtorEq, if_true, eq_self, forall_const, implies_true])) <;> (try simp only [Sz.Le, Sz.LeL, List.getElem?_cons_zero, List.getElem?_cons_succ]) <;> (try simp))
    · intro y hy _
      obtain ⟨r, hr⟩ : ∃ r, b[y]? = some r := ⟨_, List.getElem?_eq_getElem hy⟩
      have hqs : q.isSome = true := inpL_isSome hq (by omega)
      have f : inpL (plusA q (y * 2)) 2 = some [.int .i64 r.fr, .int .i64 r.to] := inp_item gV_len hq rfl hr
      have j0 : (0 : Int) ≤ (y : Int) := by omega
      have j1 : (y : Int) < (b.length : Int) := by omega
      have w2 : IntKind.i64.wrap ((y : Int) + 1) = (y : Int) + 1 := Sz.w_64 (by omega) (by omega)
      have hLl : ((b.take y).foldl fB L0).length ≤ 4000 := by
        have := fB_len (b.take y) L0
        rw [List.length_take] at this
        omega
      rw [foldB_snoc hr]
      generalize (b.take y).foldl fB L0 = L at hLl ⊢
      rw [← fold2]
      obtain ⟨ns, hns⟩ : ∃ ns, ns = [Ra.clamp r.fr, Ra.clamp r.to] := ⟨_, rfl⟩
      have hnl : ns.length = 2 := by rw [hns]; rfl
      have hnc : [SV.v (.int .i64 (Ra.clamp r.fr)), SV.v (.int .i64 (Ra.clamp r.to))] = iL ns := by rw [hns]; rfl
      rw [← hns]
      by_cases hL : L = []
      · obtain ⟨e1, e2⟩ := nil_facts hL
        rw [e1, e2]
        simp (maxSteps := 2000000) -implicitDefEqProofs only [j0, j1, hqs, f, ↓a90, w2, hnc, s_alt, s_alt20, s_alt2t, s_alt2f, ↓s_loopi, ↓v_pq, ↓PRE, POST, CORE, Nat.reduceDiv, Nat.reduceMod, Int.reduceLT, Int.reduceLE, Int.reduceToNat, Int.reduceAdd, ↓reduceIte, Nat.reduceEqDiff, Nat.reduceAdd, Nat.reduceMul, Nat.reduceSub, Nat.reduceLeDiff, Nat.reduceLT, reduceCtorEq, if_true, eq_self, forall_const, implies_true]
        refine TXi_of (TX_count (@s90 J) 2 (fun z => [(3, rS 1 1 ((ns.take z).foldl insA L).length), (11, .v (.slice P 2 C)), (12, .v (.int .i64 2)), (13, .v (.int .i64 (x : Int))), (17, .v (.slice q b.length cq)), (18, .v (.int .i64 (b.length : Int))), (19, .v (.int .i64 (y : Int))), (29, .row 0 0 2 1), (30, .v (.int .i64 2)), (31, .v (.int .i64 (z : Int)))]) (fun z => ⟨true, iL ns⟩ :: rM (iL ((ns.take z).foldl insA L))) (fun z => True) trivial ?_ ?_ ?_)
        · rw [List.take_zero, List.foldl_nil, e1, e2]
          exact (by refine ⟨[1], by simp [NdL, NdA, oO_cells, oO_own, iL_nil], ?_, ?_, keep0 hJ⟩ <;> simp only [FitM, FitE, ObLe, LeL, Le, List.cons_append, List.nil_append] <;> (try (simp (maxSteps := 2000000) -implicitDefEqProofs only [iL_fold, iL_over, iL_all, iL_get, iL_len, iL_take, iL_drop, iL_one, iL_plain, iL_le, List.length_set, s_alt, s_alt20, s_alt2t, s_alt2f, ↓s_loopi, ↓v_pq, ↓PRE, POST, CORE, Nat.reduceDiv, Nat.reduceMod, Int.reduceLT, Int.reduceLE, Int.reduceToNat, Int.reduceAdd, ↓reduceIte, Nat.reduceEqDiff, Nat.reduceAdd, Nat.reduceMul, Nat.reduceSub, Nat.reduceLeDiff, Nat.reduceLT, reduceCtorEq, if_true, eq_self, forall_const, implies_true])) <;> (try simp only [Sz.Le, Sz.LeL, List.getElem?_cons_zero, List.getElem?_cons_succ]) <;> (try simp))
        · intro z hz _
          have k0 : (0 : Int) ≤ (z : Int) := by omega
          have k1 : (z : Int) < 2 := by omega
          have w3 : IntKind.i64.wrap ((z : Int) + 1) = (z : Int) + 1 := Sz.w_64 (by omega) (by omega)
          have hz' : z < ns.length := by omega
          rw [foldA_snoc hz']
          have hZl : ((ns.take z).foldl insA L).length ≤ 4002 := by
            have := foldA_len (ns.take z) L
            rw [List.length_take] at this
            omega
          generalize (ns.take z).foldl insA L = Z at hZl ⊢
          obtain ⟨n, hn⟩ : ∃ n, n = ns.getD z 0 := ⟨_, rfl⟩
          rw [← hn]
          have hcell : (iL ns)[z]? = some (.v (.int .i64 n)) := by rw [iL_get hz', hn]
          by_cases hZ : Z = []
          · obtain ⟨e4, e5⟩ := nil_facts hZ
            rw [e4, e5]
            have hres : Ra.insN n Z = [n] := by rw [hZ]; rfl
            obtain ⟨_, e7⟩ := ne_facts (L := [n]) (by simp)
            have e6 : rM (iL [n]) = [⟨true, [.v (.int .i64 n)]⟩] := rfl
            rw [hres, e6, e7]
            simp (maxSteps := 2000000) -implicitDefEqProofs only [k0, k1, hcell, iL_fold, iL_over, iL_all, iL_get, iL_len, iL_take, iL_drop, iL_one, iL_plain, iL_le, List.length_set, s_alt, s_alt20, s_alt2t, s_alt2f, ↓s_loopi, ↓v_pq, ↓PRE, POST, CORE, Nat.reduceDiv, Nat.reduceMod, Int.reduceLT, Int.reduceLE, Int.reduceToNat, Int.reduceAdd, ↓reduceIte, Nat.reduceEqDiff, Nat.reduceAdd, Nat.reduceMul, Nat.reduceSub, Nat.reduceLeDiff, Nat.reduceLT, reduceCtorEq, if_true, eq_self, forall_const, implies_true]
            refine TXi_of (TX_count (@s90 J) 0 (fun t => [(3, .v (.slice none 0 0)), (9, .v (.int .i64 n)), (10, .v (.int .i64 0)), (11, .v (.slice P 2 C)), (12, .v (.int .i64 2)), (13, .v (.int .i64 (x : Int))), (17, .v (.slice q b.length cq)), (18, .v (.int .i64 (b.length : Int))), (19, .v (.int .i64 (y : Int))), (29, .row 0 0 2 1), (30, .v (.int .i64 2)), (31, .v (.int .i64 (z : Int)))]) (fun t => [⟨true, iL ns⟩]) (fun t => True) trivial ?_ ?_ ?_)
            · exact (by refine ⟨[0], by simp [NdL, NdA, oO_cells, oO_own, iL_nil], ?_, ?_, keep0 hJ⟩ <;> simp only [FitM, FitE, ObLe, LeL, Le, List.cons_append, List.nil_append] <;> (try (simp (maxSteps := 2000000) -implicitDefEqProofs only [iL_fold, iL_over, iL_all, iL_get, iL_len, iL_take, iL_drop, iL_one, iL_plain, iL_le, List.length_set, s_alt, s_alt20, s_alt2t, s_alt2f, ↓s_loopi, ↓v_pq, ↓PRE, POST, CORE, Nat.reduceDiv, Nat.reduceMod, Int.reduceLT, Int.reduceLE, Int.reduceToNat, Int.reduceAdd, ↓reduceIte, Nat.reduceEqDiff, Nat.reduceAdd, Nat.reduceMul, Nat.reduceSub, Nat.reduceLeDiff, Nat.reduceLT, reduceCtorEq, if_true, eq_self, forall_const, implies_true])) <;> (try simp only [Sz.Le, Sz.LeL, List.getElem?_cons_zero, List.getElem?_cons_succ]) <;> (try simp))
            · intro t ht; omega
            · intro _
              simp (maxSteps := 2000000) -implicitDefEqProofs only [beq_self_eq_true, w3, inpz, Option.map_some, List.map_nil, s_alt, s_alt20, s_alt2t, s_alt2f, ↓s_loopi, ↓v_pq, ↓PRE, POST, CORE, Nat.reduceDiv, Nat.reduceMod, Int.reduceLT, Int.reduceLE, Int.reduceToNat, Int.reduceAdd, ↓reduceIte, Nat.reduceEqDiff, Nat.reduceAdd, Nat.reduceMul, Nat.reduceSub, Nat.reduceLeDiff, Nat.reduceLT, reduceCtorEq, if_true, eq_self, forall_const, implies_true]
              (repeat' apply And.intro) <;> first | exact m1 | exact (by refine ⟨[0, 3], by simp [NdL, NdA, oO_cells, oO_own, iL_nil], ?_, ?_, keep0 hJ⟩ <;> simp only [FitM, FitE, ObLe, LeL, Le, List.cons_append, List.nil_append] <;> (try (simp (maxSteps := 2000000) -implicitDefEqProofs only [iL_fold, iL_over, iL_all, iL_get, iL_len, iL_take, iL_drop, iL_one, iL_plain, iL_le, List.length_set, s_alt, s_alt20, s_alt2t, s_alt2f, ↓s_loopi, ↓v_pq, ↓PRE, POST, CORE, Nat.reduceDiv, Nat.reduceMod, Int.reduceLT, Int.reduceLE, Int.reduceToNat, Int.reduceAdd, ↓reduceIte, Nat.reduceEqDiff, Nat.reduceAdd, Nat.reduceMul, Nat.reduceSub, Nat.reduceLeDiff, Nat.reduceLT, reduceCtorEq, if_true, eq_self, forall_const, implies_true])) <;> (try simp only [Sz.Le, Sz.LeL, List.getElem?_cons_zero, List.getElem?_cons_succ]) <;> (try simp))
          · obtain ⟨e4, e5⟩ := ne_facts hZ
            obtain ⟨t, ht⟩ : ∃ t, t = Ra.posN n Z := ⟨_, rfl⟩
            have htl : t ≤ Z.length := ht ▸ Ra.posN_le n Z
            have hZ0 : Z.length ≠ 0 := fun e => hZ (List.length_eq_zero_iff.1 e)
            rw [e4, e5]
            simp (maxSteps := 2000000) -implicitDefEqProofs only [k0, k1, hcell, iL_fold, iL_over, iL_all, iL_get, iL_len, iL_take, iL_drop, iL_one, iL_plain, iL_le, List.length_set, s_alt, s_alt20, s_alt2t, s_alt2f, ↓s_loopi, ↓v_pq, ↓PRE, POST, CORE, Nat.reduceDiv, Nat.reduceMod, Int.reduceLT, Int.reduceLE, Int.reduceToNat, Int.reduceAdd, ↓reduceIte, Nat.reduceEqDiff, Nat.reduceAdd, Nat.reduceMul, Nat.reduceSub, Nat.reduceLeDiff, Nat.reduceLT, reduceCtorEq, if_true, eq_self, forall_const, implies_true]
            refine TXi_of (TX_count (@s90 J) t (fun i => [(3, .row 1 0 Z.length 1), (9, .v (.int .i64 n)), (10, .v (.int .i64 (i : Int))), (11, .v (.slice P 2 C)), (12, .v (.int .i64 2)), (13, .v (.int .i64 (x : Int))), (17, .v (.slice q b.length cq)), (18, .v (.int .i64 (b.length : Int))), (19, .v (.int .i64 (y : Int))), (29, .row 0 0 2 1), (30, .v (.int .i64 2)), (31, .v (.int .i64 (z : Int)))]) (fun i => [⟨true, iL ns⟩, ⟨true, iL Z⟩]) (fun i => True) trivial ?_ ?_ ?_)
            · exact (by refine ⟨[0, 1], by simp [NdL, NdA, oO_cells, oO_own, iL_nil], ?_, ?_, keep0 hJ⟩ <;> simp only [FitM, FitE, ObLe, LeL, Le, List.cons_append, List.nil_append] <;> (try (simp (maxSteps := 2000000) -implicitDefEqProofs only [iL_fold, iL_over, iL_all, iL_get, iL_len, iL_take, iL_drop, iL_one, iL_plain, iL_le, List.length_set, s_alt, s_alt20, s_alt2t, s_alt2f, ↓s_loopi, ↓v_pq, ↓PRE, POST, CORE, Nat.reduceDiv, Nat.reduceMod, Int.reduceLT, Int.reduceLE, Int.reduceToNat, Int.reduceAdd, ↓reduceIte, Nat.reduceEqDiff, Nat.reduceAdd, Nat.reduceMul, Nat.reduceSub, Nat.reduceLeDiff, Nat.reduceLT, reduceCtorEq, if_true, eq_self, forall_const, implies_true])) <;> (try simp only [Sz.Le, Sz.LeL, List.getElem?_cons_zero, List.getElem?_cons_succ]) <;> (try simp))
            · intro i hi _
              obtain ⟨zi, hzi⟩ : ∃ zi, Z[i]? = some zi := ⟨_, List.getElem?_eq_getElem (by omega)⟩
              have hzc : (iL Z)[i]? = some (.v (.int .i64 zi)) := by simp [iL, hzi]
              have hlt : zi < n := Ra.posN_lt (ht ▸ hi) hzi
              have l0 : (0 : Int) ≤ (i : Int) := by omega
              have l1 : (i : Int) < (Z.length : Int) := by omega
              have w4 : IntKind.i64.wrap ((i : Int) + 1) = (i : Int) + 1 := Sz.w_64 (by omega) (by omega)
              simp (maxSteps := 2000000) -implicitDefEqProofs only [l0, l1, hzc, hlt, w4, iL_fold, iL_over, iL_all, iL_get, iL_len, iL_take, iL_drop, iL_one, iL_plain, iL_le, List.length_set, s_alt, s_alt20, s_alt2t, s_alt2f, ↓s_loopi, ↓v_pq, ↓PRE, POST, CORE, Nat.reduceDiv, Nat.reduceMod, Int.reduceLT, Int.reduceLE, Int.reduceToNat, Int.reduceAdd, ↓reduceIte, Nat.reduceEqDiff, Nat.reduceAdd, Nat.reduceMul, Nat.reduceSub, Nat.reduceLeDiff, Nat.reduceLT, reduceCtorEq, if_true, eq_self, forall_const, implies_true]
              exact (by refine ⟨[0, 1], by simp [NdL, NdA, oO_cells, oO_own, iL_nil], ?_, ?_, keep0 hJ⟩ <;> simp only [FitM, FitE, ObLe, LeL, Le, List.cons_append, List.nil_append] <;> (try (simp (maxSteps := 2000000) -implicitDefEqProofs only [iL_fold, iL_over, iL_all, iL_get, iL_len, iL_take, iL_drop, iL_one, iL_plain, iL_le, List.length_set, s_alt, s_alt20, s_alt2t, s_alt2f, ↓s_loopi, ↓v_pq, ↓PRE, POST, CORE, Nat.reduceDiv, Nat.reduceMod, Int.reduceLT, Int.reduceLE, Int.reduceToNat, Int.reduceAdd, ↓reduceIte, Nat.reduceEqDiff, Nat.reduceAdd, Nat.reduceMul, Nat.reduceSub, Nat.reduceLeDiff, Nat.reduceLT, reduceCtorEq, if_true, eq_self, forall_const, implies_true])) <;> (try simp only [Sz.Le, Sz.LeL, List.getElem?_cons_zero, List.getElem?_cons_succ]) <;> (try simp))
            · intro _
              have t0 : (0 : Int) ≤ (t : Int) := by omega
              have hge : ∀ zt, Z[t]? = some zt → n ≤ zt := fun zt h => Ra.posN_ge (ht ▸ h)
              have hT : (Z.take t).length = t := by rw [List.length_take]; omega
              have hD : (Z.drop t).length = Z.length - t := by rw [List.length_drop]
              have hDt : (Z.drop t).take (Z.length - t) = Z.drop t := List.take_of_length_le (by omega)
              have t5 : (t : Int) ≤ (Z.length : Int) := by omega
              by_cases hin : Z[t]? = some n
              · have hres : Ra.insN n Z = Z := by unfold Ra.insN; rw [← ht, if_pos hin]
                have htlt := (List.getElem?_eq_some_iff.1 hin).1
                have hzc : (iL Z)[t]? = some (.v (.int .i64 n)) := by simp [iL, hin]
                have t1 : (t : Int) < (Z.length : Int) := by omega
                have t2 : ¬ n < n := by omega
                have t3 : ((t : Int) == (Z.length : Int)) = false := by simp; omega
                have t4 : (n != n) = false := by simp
                rw [hres, e4, e5]
                simp (maxSteps := 2000000) -implicitDefEqProofs only [t0, t1, hzc, t2, t3, t4, w3, iL_fold, iL_over, iL_all, iL_get, iL_len, iL_take, iL_drop, iL_one, iL_plain, iL_le, List.length_set, s_alt, s_alt20, s_alt2t, s_alt2f, ↓s_loopi, ↓v_pq, ↓PRE, POST, CORE, Nat.reduceDiv, Nat.reduceMod, Int.reduceLT, Int.reduceLE, Int.reduceToNat, Int.reduceAdd, ↓reduceIte, Nat.reduceEqDiff, Nat.reduceAdd, Nat.reduceMul, Nat.reduceSub, Nat.reduceLeDiff, Nat.reduceLT, reduceCtorEq, if_true, eq_self, forall_const, implies_true]
                exact (by refine ⟨[0, 1], by simp [NdL, NdA, oO_cells, oO_own, iL_nil], ?_, ?_, keep0 hJ⟩ <;> simp only [FitM, FitE, ObLe, LeL, Le, List.cons_append, List.nil_append] <;> (try (simp (maxSteps := 2000000) -implicitDefEqProofs only [iL_fold, iL_over, iL_all, iL_get, iL_len, iL_take, iL_drop, iL_one, iL_plain, iL_le, List.length_set, s_alt, s_alt20, s_alt2t, s_alt2f, ↓s_loopi, ↓v_pq, ↓PRE, POST, CORE, Nat.reduceDiv, Nat.reduceMod, Int.reduceLT, Int.reduceLE, Int.reduceToNat, Int.reduceAdd, ↓reduceIte, Nat.reduceEqDiff, Nat.reduceAdd, Nat.reduceMul, Nat.reduceSub, Nat.reduceLeDiff, Nat.reduceLT, reduceCtorEq, if_true, eq_self, forall_const, implies_true])) <;> (try simp only [Sz.Le, Sz.LeL, List.getElem?_cons_zero, List.getElem?_cons_succ]) <;> (try simp))
              · have hres : Ra.insN n Z = Z.take t ++ n :: Z.drop t := by unfold Ra.insN; rw [← ht, if_neg hin]
                obtain ⟨e6, e7⟩ := ne_facts (L := Z.take t ++ n :: Z.drop t) (by simp)
                have hrl : (Z.take t ++ n :: Z.drop t).length = Z.length + 1 := by rw [List.length_append, List.length_cons, hT, hD]; omega
                have hrc : iL (Z.take t ++ n :: Z.drop t) = iL (Z.take t ++ [n] ++ Z.drop t) := by rw [List.append_assoc]; rfl
                rw [hres, e6, e7, hrl, hrc]
                have mx : Z.length + 1 ≤ maxLen := by unfold maxLen; omega
                have mt : t + 1 ≤ maxLen := by unfold maxLen; omega
                have mt0 : t ≤ maxLen := by unfold maxLen; omega
                have b1 : t * 8 ≤ 140737488355328 := by omega
                have b2 : (t + 1) * 8 ≤ 140737488355328 := by omega
                have b3 : (Z.length + 1) * 8 ≤ 140737488355328 := by omega
                have c1 : t + (Z.length - t) = Z.length := by omega
                have c2 : t + 1 + (Z.length - t) = Z.length + 1 := by omega
                have hcat : iL (Z.take t ++ [n] ++ Z.drop t) = iL (Z.take t) ++ [.v (.int .i64 n)] ++ iL (Z.drop t) := by rw [iL_snoc, iL_app]
                rw [hcat]
                have hIT : (iL Z).take t = iL (Z.take t) := iL_take
                have hID : (iL Z).drop t = iL (Z.drop t) := iL_drop
                have hAl : (iL (Z.take t)).length = t := by rw [iL_len, hT]
                have hDl : (iL (Z.drop t)).length = Z.length - t := by rw [iL_len, hD]
                have hAo : (iL (Z.take t)).all SV.one = true := iL_one
                have hDo : (iL (Z.drop t)).all SV.one = true := iL_one
                have hZc : ∀ g, LeL g (iL (Z.take t) ++ [.v (.int .i64 n)] ++ iL (Z.drop t)) (iL (Z.take t) ++ [.v (.int .i64 n)] ++ iL (Z.drop t)) = True := fun g => by rw [← hcat]; exact iL_le
                generalize iL (Z.take t) = A at hIT hAl hAo hZc ⊢
                generalize hDe : iL (Z.drop t) = D at hID hDl hDo hZc ⊢
                have hAt : A.take t = A := List.take_of_length_le (by omega)
                have hDt : D.take (Z.length - t) = D := List.take_of_length_le (by omega)
                have hAnt : (A ++ [SV.v (.int .i64 n)]).take (t + 1) = A ++ [SV.v (.int .i64 n)] := List.take_of_length_le (by simp; omega)
                have hDc : ∀ g, LeL g D D = True := fun g => by rw [← hDe]; exact iL_le
                have hnl1 : ∀ g, LeL g (iL ns) (iL ns) = True := fun g => iL_le
                by_cases hlt : t = Z.length
                · have t1 : ¬ (t : Int) < (Z.length : Int) := by omega
                  have t3 : ((t : Int) == (Z.length : Int)) = true := by simp; omega
                  have q1 : (t = 0) = False := by simp; omega
                  have q6 : (0 < t) = True := by simp; omega
                  have q2 : (t < Z.length) = False := by simp; omega
                  have q4 : Z.length + 1 = t + 1 := by omega
                  have hDn : D = [] := List.length_eq_zero_iff.1 (by omega)
                  subst hDn
                  replace hDl : ([] : List SV).length = 0 := rfl
                  replace hDt : ([] : List SV).take 0 = [] := rfl
                  rw [List.append_nil] at hZc ⊢
                  rw [q4]
                  simp (maxSteps := 2000000) -implicitDefEqProofs only [t1, t3, q1, q2, q6, t0, t5, w3, inpz, Option.map_some, List.map_nil, Nat.mul_one, Nat.zero_add, List.drop_zero, Int.toNat_natCast, htl, Nat.le_refl, hIT, hID, true_or, or_true, false_or, or_false, or_self, Nat.sub_zero, Nat.zero_le, true_and, hAl, hAt, hAo, hDl, hDt, hDo, hZc, hnl1, hAnt, mx, mt, mt0, b1, b2, b3, c1, c2, List.length_append, List.length_cons, List.length_nil, iL_len, if_false, s_alt, s_alt20, s_alt2t, s_alt2f, ↓s_loopi, ↓v_pq, ↓PRE, POST, CORE, Nat.reduceDiv, Nat.reduceMod, Int.reduceLT, Int.reduceLE, Int.reduceToNat, Int.reduceAdd, ↓reduceIte, Nat.reduceEqDiff, Nat.reduceAdd, Nat.reduceMul, Nat.reduceSub, Nat.reduceLeDiff, Nat.reduceLT, reduceCtorEq, if_true, eq_self, forall_const, implies_true]
                  (repeat' apply And.intro) <;> first | exact m1 | omega | exact (by refine ⟨[0, 5], by simp [NdL, NdA, oO_cells, oO_own, iL_nil], ?_, ?_, keep0 hJ⟩ <;> simp only [FitM, FitE, ObLe, LeL, Le, List.cons_append, List.nil_append] <;> (try (simp (maxSteps := 2000000) -implicitDefEqProofs only [hZc, hnl1, s_alt, s_alt20, s_alt2t, s_alt2f, ↓s_loopi, ↓v_pq, ↓PRE, POST, CORE, Nat.reduceDiv, Nat.reduceMod, Int.reduceLT, Int.reduceLE, Int.reduceToNat, Int.reduceAdd, ↓reduceIte, Nat.reduceEqDiff, Nat.reduceAdd, Nat.reduceMul, Nat.reduceSub, Nat.reduceLeDiff, Nat.reduceLT, reduceCtorEq, if_true, eq_self, forall_const, implies_true])) <;> (try simp only [Sz.Le, Sz.LeL, List.getElem?_cons_zero, List.getElem?_cons_succ]) <;> (try simp))
                · obtain ⟨zt, hzt⟩ : ∃ zt, Z[t]? = some zt := ⟨_, List.getElem?_eq_getElem (by omega)⟩
                  have hne : zt ≠ n := fun e => hin (by rw [hzt, e])
                  have hzc : (iL Z)[t]? = some (.v (.int .i64 zt)) := by simp [iL, hzt]
                  have t1 : (t : Int) < (Z.length : Int) := by omega
                  have t2 : ¬ zt < n := by have := hge zt hzt; omega
                  have t3 : ((t : Int) == (Z.length : Int)) = false := by simp; omega
                  have t4 : (zt != n) = true := by simpa using hne
                  have q2 : (t < Z.length) = True := by simp; omega
                  have q3 : (Z.length - t = 0) = False := by simp; omega
                  have q5 : (0 < Z.length - t) = True := by simp; omega
                  by_cases ht0 : t = 0
                  · have q1 : (t = 0) = True := by simp [ht0]
                    have hAn : A = [] := List.length_eq_zero_iff.1 (by omega)
                    subst hAn
                    rw [List.nil_append, List.cons_append, List.nil_append] at hZc ⊢
                    have q7 : 1 + (Z.length - t) = Z.length + 1 := by omega
                    simp (maxSteps := 2000000) -implicitDefEqProofs only [t1, t2, t3, t4, hzc, q1, q2, q3, q5, q7, List.take_nil, t0, t5, w3, inpz, Option.map_some, List.map_nil, Nat.mul_one, Nat.zero_add, List.drop_zero, Int.toNat_natCast, htl, Nat.le_refl, hIT, hID, true_or, or_true, false_or, or_false, or_self, Nat.sub_zero, Nat.zero_le, true_and, hAl, hAt, hAo, hDl, hDt, hDo, hZc, hnl1, hAnt, mx, mt, mt0, b1, b2, b3, c1, c2, List.length_append, List.length_cons, List.length_nil, iL_len, if_false, s_alt, s_alt20, s_alt2t, s_alt2f, ↓s_loopi, ↓v_pq, ↓PRE, POST, CORE, Nat.reduceDiv, Nat.reduceMod, Int.reduceLT, Int.reduceLE, Int.reduceToNat, Int.reduceAdd, ↓reduceIte, Nat.reduceEqDiff, Nat.reduceAdd, Nat.reduceMul, Nat.reduceSub, Nat.reduceLeDiff, Nat.reduceLT, reduceCtorEq, if_true, eq_self, forall_const, implies_true]
                    (repeat' apply And.intro) <;> first | exact m1 | omega | exact (by refine ⟨[0, 5], by simp [NdL, NdA, oO_cells, oO_own, iL_nil], ?_, ?_, keep0 hJ⟩ <;> simp only [FitM, FitE, ObLe, LeL, Le, List.cons_append, List.nil_append] <;> (try (simp (maxSteps := 2000000) -implicitDefEqProofs only [hZc, hnl1, hDc, s_alt, s_alt20, s_alt2t, s_alt2f, ↓s_loopi, ↓v_pq, ↓PRE, POST, CORE, Nat.reduceDiv, Nat.reduceMod, Int.reduceLT, Int.reduceLE, Int.reduceToNat, Int.reduceAdd, ↓reduceIte, Nat.reduceEqDiff, Nat.reduceAdd, Nat.reduceMul, Nat.reduceSub, Nat.reduceLeDiff, Nat.reduceLT, reduceCtorEq, if_true, eq_self, forall_const, implies_true])) <;> (try simp only [Sz.Le, Sz.LeL, List.getElem?_cons_zero, List.getElem?_cons_succ]) <;> (try simp))
                  · have q1 : (t = 0) = False := by simp; omega
                    have q6 : (0 < t) = True := by simp; omega
                    simp (maxSteps := 2000000) -implicitDefEqProofs only [t1, t2, t3, t4, hzc, q1, q2, q3, q5, q6, t0, t5, w3, inpz, Option.map_some, List.map_nil, Nat.mul_one, Nat.zero_add, List.drop_zero, Int.toNat_natCast, htl, Nat.le_refl, hIT, hID, true_or, or_true, false_or, or_false, or_self, Nat.sub_zero, Nat.zero_le, true_and, hAl, hAt, hAo, hDl, hDt, hDo, hZc, hnl1, hAnt, mx, mt, mt0, b1, b2, b3, c1, c2, List.length_append, List.length_cons, List.length_nil, iL_len, if_false, s_alt, s_alt20, s_alt2t, s_alt2f, ↓s_loopi, ↓v_pq, ↓PRE, POST, CORE, Nat.reduceDiv, Nat.reduceMod, Int.reduceLT, Int.reduceLE, Int.reduceToNat, Int.reduceAdd, ↓reduceIte, Nat.reduceEqDiff, Nat.reduceAdd, Nat.reduceMul, Nat.reduceSub, Nat.reduceLeDiff, Nat.reduceLT, reduceCtorEq, if_true, eq_self, forall_const, implies_true]
                    (repeat' apply And.intro) <;> first | exact m1 | omega | exact (by refine ⟨[0, 6], by simp [NdL, NdA, oO_cells, oO_own, iL_nil], ?_, ?_, keep0 hJ⟩ <;> simp only [FitM, FitE, ObLe, LeL, Le, List.cons_append, List.nil_append] <;> (try (simp (maxSteps := 2000000) -implicitDefEqProofs only [hZc, hnl1, s_alt, s_alt20, s_alt2t, s_alt2f, ↓s_loopi, ↓v_pq, ↓PRE, POST, CORE, Nat.reduceDiv, Nat.reduceMod, Int.reduceLT, Int.reduceLE, Int.reduceToNat, Int.reduceAdd, ↓reduceIte, Nat.reduceEqDiff, Nat.reduceAdd, Nat.reduceMul, Nat.reduceSub, Nat.reduceLeDiff, Nat.reduceLT, reduceCtorEq, if_true, eq_self, forall_const, implies_true])) <;> (try simp only [Sz.Le, Sz.LeL, List.getElem?_cons_zero, List.getElem?_cons_succ]) <;> (try simp))
        · intro _
          have k1 : ¬ (2 : Int) < 2 := by omega
          have hnt : ns.take 2 = ns := List.take_of_length_le (by omega)
          rw [hnt]
          have hZl : (ns.foldl insA L).length ≤ 4002 := by
            have := foldA_len ns L
            omega
          generalize ns.foldl insA L = Z at hZl ⊢
          by_cases hZ : Z = []
          · obtain ⟨e4, e5⟩ := nil_facts hZ
            rw [e4, e5, e5]
            simp (maxSteps := 2000000) -implicitDefEqProofs only [k1, w2, s_alt, s_alt20, s_alt2t, s_alt2f, ↓s_loopi, ↓v_pq, ↓PRE, POST, CORE, Nat.reduceDiv, Nat.reduceMod, Int.reduceLT, Int.reduceLE, Int.reduceToNat, Int.reduceAdd, ↓reduceIte, Nat.reduceEqDiff, Nat.reduceAdd, Nat.reduceMul, Nat.reduceSub, Nat.reduceLeDiff, Nat.reduceLT, reduceCtorEq, if_true, eq_self, forall_const, implies_true]
            exact (by refine ⟨[], by simp [NdL, NdA, oO_cells, oO_own, iL_nil], ?_, ?_, keep0 hJ⟩ <;> simp only [FitM, FitE, ObLe, LeL, Le, List.cons_append, List.nil_append] <;> (try (simp (maxSteps := 2000000) -implicitDefEqProofs only [iL_fold, iL_over, iL_all, iL_get, iL_len, iL_take, iL_drop, iL_one, iL_plain, iL_le, List.length_set, s_alt, s_alt20, s_alt2t, s_alt2f, ↓s_loopi, ↓v_pq, ↓PRE, POST, CORE, Nat.reduceDiv, Nat.reduceMod, Int.reduceLT, Int.reduceLE, Int.reduceToNat, Int.reduceAdd, ↓reduceIte, Nat.reduceEqDiff, Nat.reduceAdd, Nat.reduceMul, Nat.reduceSub, Nat.reduceLeDiff, Nat.reduceLT, reduceCtorEq, if_true, eq_self, forall_const, implies_true])) <;> (try simp only [Sz.Le, Sz.LeL, List.getElem?_cons_zero, List.getElem?_cons_succ]) <;> (try simp))
          · obtain ⟨e4, e5⟩ := ne_facts hZ
            rw [e4, e5, e5]
            simp (maxSteps := 2000000) -implicitDefEqProofs only [k1, w2, s_alt, s_alt20, s_alt2t, s_alt2f, ↓s_loopi, ↓v_pq, ↓PRE, POST, CORE, Nat.reduceDiv, Nat.reduceMod, Int.reduceLT, Int.reduceLE, Int.reduceToNat, Int.reduceAdd, ↓reduceIte, Nat.reduceEqDiff, Nat.reduceAdd, Nat.reduceMul, Nat.reduceSub, Nat.reduceLeDiff, Nat.reduceLT, reduceCtorEq, if_true, eq_self, forall_const, implies_true]
            exact (by refine ⟨[1], by simp [NdL, NdA, oO_cells, oO_own, iL_nil], ?_, ?_, keep0 hJ⟩ <;> simp only [FitM, FitE, ObLe, LeL, Le, List.cons_append, List.nil_append] <;> (try (simp (maxSteps := 2000000) -implicitDefEqProofs only [iL_fold, iL_over, iL_all, iL_get, iL_len, iL_take, iL_drop, iL_one, iL_plain, iL_le, List.length_set, s_alt, s_alt20, s_alt2t, s_alt2f, ↓s_loopi, ↓v_pq, ↓PRE, POST, CORE, Nat.reduceDiv, Nat.reduceMod, Int.reduceLT, Int.reduceLE, Int.reduceToNat, Int.reduceAdd, ↓reduceIte, Nat.reduceEqDiff, Nat.reduceAdd, Nat.reduceMul, Nat.reduceSub, Nat.reduceLeDiff, Nat.reduceLT, reduceCtorEq, if_true, eq_self, forall_const, implies_true])) <;> (try simp only [Sz.Le, Sz.LeL, List.getElem?_cons_zero, List.getElem?_cons_succ]) <;> (try simp))
      · obtain ⟨e1, e2⟩ := ne_facts hL
        rw [e1, e2]
        simp (maxSteps := 2000000) -implicitDefEqProofs only [j0, j1, hqs, f, ↓a90, w2, hnc, s_alt, s_alt20, s_alt2t, s_alt2f, ↓s_loopi, ↓v_pq, ↓PRE, POST, CORE, Nat.reduceDiv, Nat.reduceMod, Int.reduceLT, Int.reduceLE, Int.reduceToNat, Int.reduceAdd, ↓reduceIte, Nat.reduceEqDiff, Nat.reduceAdd, Nat.reduceMul, Nat.reduceSub, Nat.reduceLeDiff, Nat.reduceLT, reduceCtorEq, if_true, eq_self, forall_const, implies_true]
        refine TXi_of (TX_count (@s90 J) 2 (fun z => [(3, rS 1 1 ((ns.take z).foldl insA L).length), (11, .v (.slice P 2 C)), (12, .v (.int .i64 2)), (13, .v (.int .i64 (x : Int))), (17, .v (.slice q b.length cq)), (18, .v (.int .i64 (b.length : Int))), (19, .v (.int .i64 (y : Int))), (29, .row 0 0 2 1), (30, .v (.int .i64 2)), (31, .v (.int .i64 (z : Int)))]) (fun z => ⟨true, iL ns⟩ :: rM (iL ((ns.take z).foldl insA L))) (fun z => True) trivial ?_ ?_ ?_)
        · rw [List.take_zero, List.foldl_nil, e1, e2]
          exact (by refine ⟨[2, 0], by simp [NdL, NdA, oO_cells, oO_own, iL_nil], ?_, ?_, keep0 hJ⟩ <;> simp only [FitM, FitE, ObLe, LeL, Le, List.cons_append, List.nil_append] <;> (try (simp (maxSteps := 2000000) -implicitDefEqProofs only [iL_fold, iL_over, iL_all, iL_get, iL_len, iL_take, iL_drop, iL_one, iL_plain, iL_le, List.length_set, s_alt, s_alt20, s_alt2t, s_alt2f, ↓s_loopi, ↓v_pq, ↓PRE, POST, CORE, Nat.reduceDiv, Nat.reduceMod, Int.reduceLT, Int.reduceLE, Int.reduceToNat, Int.reduceAdd, ↓reduceIte, Nat.reduceEqDiff, Nat.reduceAdd, Nat.reduceMul, Nat.reduceSub, Nat.reduceLeDiff, Nat.reduceLT, reduceCtorEq, if_true, eq_self, forall_const, implies_true])) <;> (try simp only [Sz.Le, Sz.LeL, List.getElem?_cons_zero, List.getElem?_cons_succ]) <;> (try simp))
        · intro z hz _
          have k0 : (0 : Int) ≤ (z : Int) := by omega
          have k1 : (z : Int) < 2 := by omega
          have w3 : IntKind.i64.wrap ((z : Int) + 1) = (z : Int) + 1 := Sz.w_64 (by omega) (by omega)
          have hz' : z < ns.length := by omega
          rw [foldA_snoc hz']
          have hZl : ((ns.take z).foldl insA L).length ≤ 4002 := by
            have := foldA_len (ns.take z) L
            rw [List.length_take] at this
            omega
          generalize (ns.take z).foldl insA L = Z at hZl ⊢
          obtain ⟨n, hn⟩ : ∃ n, n = ns.getD z 0 := ⟨_, rfl⟩
          rw [← hn]
          have hcell : (iL ns)[z]? = some (.v (.int .i64 n)) := by rw [iL_get hz', hn]
          by_cases hZ : Z = []
          · obtain ⟨e4, e5⟩ := nil_facts hZ
            rw [e4, e5]
            have hres : Ra.insN n Z = [n] := by rw [hZ]; rfl
            obtain ⟨_, e7⟩ := ne_facts (L := [n]) (by simp)
            have e6 : rM (iL [n]) = [⟨true, [.v (.int .i64 n)]⟩] := rfl
            rw [hres, e6, e7]
            simp (maxSteps := 2000000) -implicitDefEqProofs only [k0, k1, hcell, iL_fold, iL_over, iL_all, iL_get, iL_len, iL_take, iL_drop, iL_one, iL_plain, iL_le, List.length_set, s_alt, s_alt20, s_alt2t, s_alt2f, ↓s_loopi, ↓v_pq, ↓PRE, POST, CORE, Nat.reduceDiv, Nat.reduceMod, Int.reduceLT, Int.reduceLE, Int.reduceToNat, Int.reduceAdd, ↓reduceIte, Nat.reduceEqDiff, Nat.reduceAdd, Nat.reduceMul, Nat.reduceSub, Nat.reduceLeDiff, Nat.reduceLT, reduceCtorEq, if_true, eq_self, forall_const, implies_true]
            refine TXi_of (TX_count (@s90 J) 0 (fun t => [(3, .v (.slice none 0 0)), (9, .v (.int .i64 n)), (10, .v (.int .i64 0)), (11, .v (.slice P 2 C)), (12, .v (.int .i64 2)), (13, .v (.int .i64 (x : Int))), (17, .v (.slice q b.length cq)), (18, .v (.int .i64 (b.length : Int))), (19, .v (.int .i64 (y : Int))), (29, .row 0 0 2 1), (30, .v (.int .i64 2)), (31, .v (.int .i64 (z : Int)))]) (fun t => [⟨true, iL ns⟩]) (fun t => True) trivial ?_ ?_ ?_)
            · exact (by refine ⟨[0], by simp [NdL, NdA, oO_cells, oO_own, iL_nil], ?_, ?_, keep0 hJ⟩ <;> simp only [FitM, FitE, ObLe, LeL, Le, List.cons_append, List.nil_append] <;> (try (simp (maxSteps := 2000000) -implicitDefEqProofs only [iL_fold, iL_over, iL_all, iL_get, iL_len, iL_take, iL_drop, iL_one, iL_plain, iL_le, List.length_set, s_alt, s_alt20, s_alt2t, s_alt2f, ↓s_loopi, ↓v_pq, ↓PRE, POST, CORE, Nat.reduceDiv, Nat.reduceMod, Int.reduceLT, Int.reduceLE, Int.reduceToNat, Int.reduceAdd, ↓reduceIte, Nat.reduceEqDiff, Nat.reduceAdd, Nat.reduceMul, Nat.reduceSub, Nat.reduceLeDiff, Nat.reduceLT, reduceCtorEq, if_true, eq_self, forall_const, implies_true])) <;> (try simp only [Sz.Le, Sz.LeL, List.getElem?_cons_zero, List.getElem?_cons_succ]) <;> (try simp))
            · intro t ht; omega
            · intro _
              simp (maxSteps := 2000000) -implicitDefEqProofs only [beq_self_eq_true, w3, inpz, Option.map_some, List.map_nil, s_alt, s_alt20, s_alt2t, s_alt2f, ↓s_loopi, ↓v_pq, ↓PRE, POST, CORE, Nat.reduceDiv, Nat.reduceMod, Int.reduceLT, Int.reduceLE, Int.reduceToNat, Int.reduceAdd, ↓reduceIte, Nat.reduceEqDiff, Nat.reduceAdd, Nat.reduceMul, Nat.reduceSub, Nat.reduceLeDiff, Nat.reduceLT, reduceCtorEq, if_true, eq_self, forall_const, implies_true]
              (repeat' apply And.intro) <;> first | exact m1 | exact (by refine ⟨[0, 3], by simp [NdL, NdA, oO_cells, oO_own, iL_nil], ?_, ?_, keep0 hJ⟩ <;> simp only [FitM, FitE, ObLe, LeL, Le, List.cons_append, List.nil_append] <;> (try (simp (maxSteps := 2000000) -implicitDefEqProofs only [iL_fold, iL_over, iL_all, iL_get, iL_len, iL_take, iL_drop, iL_one, iL_plain, iL_le, List.length_set, s_alt, s_alt20, s_alt2t, s_alt2f, ↓s_loopi, ↓v_pq, ↓PRE, POST, CORE, Nat.reduceDiv, Nat.reduceMod, Int.reduceLT, Int.reduceLE, Int.reduceToNat, Int.reduceAdd, ↓reduceIte, Nat.reduceEqDiff, Nat.reduceAdd, Nat.reduceMul, Nat.reduceSub, Nat.reduceLeDiff, Nat.reduceLT, reduceCtorEq, if_true, eq_self, forall_const, implies_true])) <;> (try simp only [Sz.Le, Sz.LeL, List.getElem?_cons_zero, List.getElem?_cons_succ]) <;> (try simp))
          · obtain ⟨e4, e5⟩ := ne_facts hZ
            obtain ⟨t, ht⟩ : ∃ t, t = Ra.posN n Z := ⟨_, rfl⟩
            have htl : t ≤ Z.length := ht ▸ Ra.posN_le n Z
            have hZ0 : Z.length ≠ 0 := fun e => hZ (List.length_eq_zero_iff.1 e)
            rw [e4, e5]
            simp (maxSteps := 2000000) -implicitDefEqProofs only [k0, k1, hcell, iL_fold, iL_over, iL_all, iL_get, iL_len, iL_take, iL_drop, iL_one, iL_plain, iL_le, List.length_set, s_alt, s_alt20, s_alt2t, s_alt2f, ↓s_loopi, ↓v_pq, ↓PRE, POST, CORE, Nat.reduceDiv, Nat.reduceMod, Int.reduceLT, Int.reduceLE, Int.reduceToNat, Int.reduceAdd, ↓reduceIte, Nat.reduceEqDiff, Nat.reduceAdd, Nat.reduceMul, Nat.reduceSub, Nat.reduceLeDiff, Nat.reduceLT, reduceCtorEq, if_true, eq_self, forall_const, implies_true]
            refine TXi_of (TX_count (@s90 J) t (fun i => [(3, .row 1 0 Z.length 1), (9, .v (.int .i64 n)), (10, .v (.int .i64 (i : Int))), (11, .v (.slice P 2 C)), (12, .v (.int .i64 2)), (13, .v (.int .i64 (x : Int))), (17, .v (.slice q b.length cq)), (18, .v (.int .i64 (b.length : Int))), (19, .v (.int .i64 (y : Int))), (29, .row 0 0 2 1), (30, .v (.int .i64 2)), (31, .v (.int .i64 (z : Int)))]) (fun i => [⟨true, iL ns⟩, ⟨true, iL Z⟩]) (fun i => True) trivial ?_ ?_ ?_)
            · exact (by refine ⟨[0, 1], by simp [NdL, NdA, oO_cells, oO_own, iL_nil], ?_, ?_, keep0 hJ⟩ <;> simp only [FitM, FitE, ObLe, LeL, Le, List.cons_append, List.nil_append] <;> (try (simp (maxSteps := 2000000) -implicitDefEqProofs only [iL_fold, iL_over, iL_all, iL_get, iL_len, iL_take, iL_drop, iL_one, iL_plain, iL_le, List.length_set, s_alt, s_alt20, s_alt2t, s_alt2f, ↓s_loopi, ↓v_pq, ↓PRE, POST, CORE, Nat.reduceDiv, Nat.reduceMod, Int.reduceLT, Int.reduceLE, Int.reduceToNat, Int.reduceAdd, ↓reduceIte, Nat.reduceEqDiff, Nat.reduceAdd, Nat.reduceMul, Nat.reduceSub, Nat.reduceLeDiff, Nat.reduceLT, reduceCtorEq, if_true, eq_self, forall_const, implies_true])) <;> (try simp only [Sz.Le, Sz.LeL, List.getElem?_cons_zero, List.getElem?_cons_succ]) <;> (try simp))
            · intro i hi _
              obtain ⟨zi, hzi⟩ : ∃ zi, Z[i]? = some zi := ⟨_, List.getElem?_eq_getElem (by omega)⟩
              have hzc : (iL Z)[i]? = some (.v (.int .i64 zi)) := by simp [iL, hzi]
              have hlt : zi < n := Ra.posN_lt (ht ▸ hi) hzi
              have l0 : (0 : Int) ≤ (i : Int) := by omega
              have l1 : (i : Int) < (Z.length : Int) := by omega
              have w4 : IntKind.i64.wrap ((i : Int) + 1) = (i : Int) + 1 := Sz.w_64 (by omega) (by omega)
              simp (maxSteps := 2000000) -implicitDefEqProofs only [l0, l1, hzc, hlt, w4, iL_fold, iL_over, iL_all, iL_get, iL_len, iL_take, iL_drop, iL_one, iL_plain, iL_le, List.length_set, s_alt, s_alt20, s_alt2t, s_alt2f, ↓s_loopi, ↓v_pq, ↓PRE, POST, CORE, Nat.reduceDiv, Nat.reduceMod, Int.reduceLT, Int.reduceLE, Int.reduceToNat, Int.reduceAdd, ↓reduceIte, Nat.reduceEqDiff, Nat.reduceAdd, Nat.reduceMul, Nat.reduceSub, Nat.reduceLeDiff, Nat.reduceLT, reduceCtorEq, if_true, eq_self, forall_const, implies_true]
              exact (by refine ⟨[0, 1], by simp [NdL, NdA, oO_cells, oO_own, iL_nil], ?_, ?_, keep0 hJ⟩ <;> simp only [FitM, FitE, ObLe, LeL, Le, List.cons_append, List.nil_append] <;> (try (simp (maxSteps := 2000000) -implicitDefEqProofs only [iL_fold, iL_over, iL_all, iL_get, iL_len, iL_take, iL_drop, iL_one, iL_plain, iL_le, List.length_set, s_alt, s_alt20, s_alt2t, s_alt2f, ↓s_loopi, ↓v_pq, ↓PRE, POST, CORE, Nat.reduceDiv, Nat.reduceMod, Int.reduceLT, Int.reduceLE, Int.reduceToNat, Int.reduceAdd, ↓reduceIte, Nat.reduceEqDiff, Nat.reduceAdd, Nat.reduceMul, Nat.reduceSub, Nat.reduceLeDiff, Nat.reduceLT, reduceCtorEq, if_true, eq_self, forall_const, implies_true])) <;> (try simp only [Sz.Le, Sz.LeL, List.getElem?_cons_zero, List.getElem?_cons_succ]) <;> (try simp))
            · intro _
              have t0 : (0 : Int) ≤ (t : Int) := by omega
              have hge : ∀ zt, Z[t]? = some zt → n ≤ zt := fun zt h => Ra.posN_ge (ht ▸ h)
              have hT : (Z.take t).length = t := by rw [List.length_take]; omega
              have hD : (Z.drop t).length = Z.length - t := by rw [List.length_drop]
              have hDt : (Z.drop t).take (Z.length - t) = Z.drop t := List.take_of_length_le (by omega)
              have t5 : (t : Int) ≤ (Z.length : Int) := by omega
              by_cases hin : Z[t]? = some n
              · have hres : Ra.insN n Z = Z := by unfold Ra.insN; rw [← ht, if_pos hin]
                have htlt := (List.getElem?_eq_some_iff.1 hin).1
                have hzc : (iL Z)[t]? = some (.v (.int .i64 n)) := by simp [iL, hin]
                have t1 : (t : Int) < (Z.length : Int) := by omega
                have t2 : ¬ n < n := by omega
                have t3 : ((t : Int) == (Z.length : Int)) = false := by simp; omega
                have t4 : (n != n) = false := by simp
                rw [hres, e4, e5]
                simp (maxSteps := 2000000) -implicitDefEqProofs only [t0, t1, hzc, t2, t3, t4, w3, iL_fold, iL_over, iL_all, iL_get, iL_len, iL_take, iL_drop, iL_one, iL_plain, iL_le, List.length_set, s_alt, s_alt20, s_alt2t, s_alt2f, ↓s_loopi, ↓v_pq, ↓PRE, POST, CORE, Nat.reduceDiv, Nat.reduceMod, Int.reduceLT, Int.reduceLE, Int.reduceToNat, Int.reduceAdd, ↓reduceIte, Nat.reduceEqDiff, Nat.reduceAdd, Nat.reduceMul, Nat.reduceSub, Nat.reduceLeDiff, Nat.reduceLT, reduceCtorEq, if_true, eq_self, forall_const, implies_true]
                exact (by refine ⟨[0, 1], by simp [NdL, NdA, oO_cells, oO_own, iL_nil], ?_, ?_, keep0 hJ⟩ <;> simp only [FitM, FitE, ObLe, LeL, Le, List.cons_append, List.nil_append] <;> (try (simp (maxSteps := 2000000) -implicitDefEqProofs only [iL_fold, iL_over, iL_all, iL_get, iL_len, iL_take, iL_drop, iL_one, iL_plain, iL_le, List.length_set, s_alt, s_alt20, s_alt2t, s_alt2f, ↓s_loopi, ↓v_pq, ↓PRE, POST, CORE, Nat.reduceDiv, Nat.reduceMod, Int.reduceLT, Int.reduceLE, Int.reduceToNat, Int.reduceAdd, ↓reduceIte, Nat.reduceEqDiff, Nat.reduceAdd, Nat.reduceMul, Nat.reduceSub, Nat.reduceLeDiff, Nat.reduceLT, reduceCtorEq, if_true, eq_self, forall_const, implies_true])) <;> (try simp only [Sz.Le, Sz.LeL, List.getElem?_cons_zero, List.getElem?_cons_succ]) <;> (try simp))
              · have hres : Ra.insN n Z = Z.take t ++ n :: Z.drop t := by unfold Ra.insN; rw [← ht, if_neg hin]
                obtain ⟨e6, e7⟩ := ne_facts (L := Z.take t ++ n :: Z.drop t) (by simp)
                have hrl : (Z.take t ++ n :: Z.drop t).length = Z.length + 1 := by rw [List.length_append, List.length_cons, hT, hD]; omega
                have hrc : iL (Z.take t ++ n :: Z.drop t) = iL (Z.take t ++ [n] ++ Z.drop t) := by rw [List.append_assoc]; rfl
                rw [hres, e6, e7, hrl, hrc]
                have mx : Z.length + 1 ≤ maxLen := by unfold maxLen; omega
                have mt : t + 1 ≤ maxLen := by unfold maxLen; omega
                have mt0 : t ≤ maxLen := by unfold maxLen; omega
                have b1 : t * 8 ≤ 140737488355328 := by omega
                have b2 : (t + 1) * 8 ≤ 140737488355328 := by omega
                have b3 : (Z.length + 1) * 8 ≤ 140737488355328 := by omega
                have c1 : t + (Z.length - t) = Z.length := by omega
                have c2 : t + 1 + (Z.length - t) = Z.length + 1 := by omega
                have hcat : iL (Z.take t ++ [n] ++ Z.drop t) = iL (Z.take t) ++ [.v (.int .i64 n)] ++ iL (Z.drop t) := by rw [iL_snoc, iL_app]
                rw [hcat]
                have hIT : (iL Z).take t = iL (Z.take t) := iL_take
                have hID : (iL Z).drop t = iL (Z.drop t) := iL_drop
                have hAl : (iL (Z.take t)).length = t := by rw [iL_len, hT]
                have hDl : (iL (Z.drop t)).length = Z.length - t := by rw [iL_len, hD]
                have hAo : (iL (Z.take t)).all SV.one = true := iL_one
                have hDo : (iL (Z.drop t)).all SV.one = true := iL_one
                have hZc : ∀ g, LeL g (iL (Z.take t) ++ [.v (.int .i64 n)] ++ iL (Z.drop t)) (iL (Z.take t) ++ [.v (.int .i64 n)] ++ iL (Z.drop t)) = True := fun g => by rw [← hcat]; exact iL_le
                generalize iL (Z.take t) = A at hIT hAl hAo hZc ⊢
                generalize hDe : iL (Z.drop t) = D at hID hDl hDo hZc ⊢
                have hAt : A.take t = A := List.take_of_length_le (by omega)
                have hDt : D.take (Z.length - t) = D := List.take_of_length_le (by omega)
                have hAnt : (A ++ [SV.v (.int .i64 n)]).take (t + 1) = A ++ [SV.v (.int .i64 n)] := List.take_of_length_le (by simp; omega)
                have hDc : ∀ g, LeL g D D = True := fun g => by rw [← hDe]; exact iL_le
                have hnl1 : ∀ g, LeL g (iL ns) (iL ns) = True := fun g => iL_le
                by_cases hlt : t = Z.length
                · have t1 : ¬ (t : Int) < (Z.length : Int) := by omega
                  have t3 : ((t : Int) == (Z.length : Int)) = true := by simp; omega
                  have q1 : (t = 0) = False := by simp; omega
                  have q6 : (0 < t) = True := by simp; omega
                  have q2 : (t < Z.length) = False := by simp; omega
                  have q4 : Z.length + 1 = t + 1 := by omega
                  have hDn : D = [] := List.length_eq_zero_iff.1 (by omega)
                  subst hDn
                  replace hDl : ([] : List SV).length = 0 := rfl
                  replace hDt : ([] : List SV).take 0 = [] := rfl
                  rw [List.append_nil] at hZc ⊢
                  rw [q4]
                  simp (maxSteps := 2000000) -implicitDefEqProofs only [t1, t3, q1, q2, q6, t0, t5, w3, inpz, Option.map_some, List.map_nil, Nat.mul_one, Nat.zero_add, List.drop_zero, Int.toNat_natCast, htl, Nat.le_refl, hIT, hID, true_or, or_true, false_or, or_false, or_self, Nat.sub_zero, Nat.zero_le, true_and, hAl, hAt, hAo, hDl, hDt, hDo, hZc, hnl1, hAnt, mx, mt, mt0, b1, b2, b3, c1, c2, List.length_append, List.length_cons, List.length_nil, iL_len, if_false, s_alt, s_alt20, s_alt2t, s_alt2f, ↓s_loopi, ↓v_pq, ↓PRE, POST, CORE, Nat.reduceDiv, Nat.reduceMod, Int.reduceLT, Int.reduceLE, Int.reduceToNat, Int.reduceAdd, ↓reduceIte, Nat.reduceEqDiff, Nat.reduceAdd, Nat.reduceMul, Nat.reduceSub, Nat.reduceLeDiff, Nat.reduceLT, reduceCtorEq, if_true, eq_self, forall_const, implies_true]
                  (repeat' apply And.intro) <;> first | exact m1 | omega | exact (by refine ⟨[0, 5], by simp [NdL, NdA, oO_cells, oO_own, iL_nil], ?_, ?_, keep0 hJ⟩ <;> simp only [FitM, FitE, ObLe, LeL, Le, List.cons_append, List.nil_append] <;> (try (simp (maxSteps := 2000000) -implicitDefEqProofs only [hZc, hnl1, s_alt, s_alt20, s_alt2t, s_alt2f, ↓s_loopi, ↓v_pq, ↓PRE, POST, CORE, Nat.reduceDiv, Nat.reduceMod, Int.reduceLT, Int.reduceLE, Int.reduceToNat, Int.reduceAdd, ↓reduceIte, Nat.reduceEqDiff, Nat.reduceAdd, Nat.reduceMul, Nat.reduceSub, Nat.reduceLeDiff, Nat.reduceLT, reduceCtorEq, if_true, eq_self, forall_const, implies_true])) <;> (try simp only [Sz.Le, Sz.LeL, List.getElem?_cons_zero, List.getElem?_cons_succ]) <;> (try simp))
                · obtain ⟨zt, hzt⟩ : ∃ zt, Z[t]? = some zt := ⟨_, List.getElem?_eq_getElem (by omega)⟩
                  have hne : zt ≠ n := fun e => hin (by rw [hzt, e])
                  have hzc : (iL Z)[t]? = some (.v (.int .i64 zt)) := by simp [iL, hzt]
                  have t1 : (t : Int) < (Z.length : Int) := by omega
                  have t2 : ¬ zt < n := by have := hge zt hzt; omega
                  have t3 : ((t : Int) == (Z.length : Int)) = false := by simp; omega
                  have t4 : (zt != n) = true := by simpa using hne
                  have q2 : (t < Z.length) = True := by simp; omega
                  have q3 : (Z.length - t = 0) = False := by simp; omega
                  have q5 : (0 < Z.length - t) = True := by simp; omega
                  by_cases ht0 : t = 0
                  · have q1 : (t = 0) = True := by simp [ht0]
                    have hAn : A = [] := List.length_eq_zero_iff.1 (by omega)
                    subst hAn
                    rw [List.nil_append, List.cons_append, List.nil_append] at hZc ⊢
                    have q7 : 1 + (Z.length - t) = Z.length + 1 := by omega
                    simp (maxSteps := 2000000) -implicitDefEqProofs only [t1, t2, t3, t4, hzc, q1, q2, q3, q5, q7, List.take_nil, t0, t5, w3, inpz, Option.map_some, List.map_nil, Nat.mul_one, Nat.zero_add, List.drop_zero, Int.toNat_natCast, htl, Nat.le_refl, hIT, hID, true_or, or_true, false_or, or_false, or_self, Nat.sub_zero, Nat.zero_le, true_and, hAl, hAt, hAo, hDl, hDt, hDo, hZc, hnl1, hAnt, mx, mt, mt0, b1, b2, b3, c1, c2, List.length_append, List.length_cons, List.length_nil, iL_len, if_false, s_alt, s_alt20, s_alt2t, s_alt2f, ↓s_loopi, ↓v_pq, ↓PRE, POST, CORE, Nat.reduceDiv, Nat.reduceMod, Int.reduceLT, Int.reduceLE, Int.reduceToNat, Int.reduceAdd, ↓reduceIte, Nat.reduceEqDiff, Nat.reduceAdd, Nat.reduceMul, Nat.reduceSub, Nat.reduceLeDiff, Nat.reduceLT, reduceCtorEq, if_true, eq_self, forall_const, implies_true]
                    (repeat' apply And.intro) <;> first | exact m1 | omega | exact (by refine ⟨[0, 5], by simp [NdL, NdA, oO_cells, oO_own, iL_nil], ?_, ?_, keep0 hJ⟩ <;> simp only [FitM, FitE, ObLe, LeL, Le, List.cons_append, List.nil_append] <;> (try (simp (maxSteps := 2000000) -implicitDefEqProofs only [hZc, hnl1, hDc, s_alt, s_alt20, s_alt2t, s_alt2f, ↓s_loopi, ↓v_pq, ↓PRE, POST, CORE, Nat.reduceDiv, Nat.reduceMod, Int.reduceLT, Int.reduceLE, Int.reduceToNat, Int.reduceAdd, ↓reduceIte, Nat.reduceEqDiff, Nat.reduceAdd, Nat.reduceMul, Nat.reduceSub, Nat.reduceLeDiff, Nat.reduceLT, reduceCtorEq, if_true, eq_self, forall_const, implies_true])) <;> (try simp only [Sz.Le, Sz.LeL, List.getElem?_cons_zero, List.getElem?_cons_succ]) <;> (try simp))
                  · have q1 : (t = 0) = False := by simp; omega
                    have q6 : (0 < t) = True := by simp; omega
                    simp (maxSteps := 2000000) -implicitDefEqProofs only [t1, t2, t3, t4, hzc, q1, q2, q3, q5, q6, t0, t5, w3, inpz, Option.map_some, List.map_nil, Nat.mul_one, Nat.zero_add, List.drop_zero, Int.toNat_natCast, htl, Nat.le_refl, hIT, hID, true_or, or_true, false_or, or_false, or_self, Nat.sub_zero, Nat.zero_le, true_and, hAl, hAt, hAo, hDl, hDt, hDo, hZc, hnl1, hAnt, mx, mt, mt0, b1, b2, b3, c1, c2, List.length_append, List.length_cons, List.length_nil, iL_len, if_false, s_alt, s_alt20, s_alt2t, s_alt2f, ↓s_loopi, ↓v_pq, ↓PRE, POST, CORE, Nat.reduceDiv, Nat.reduceMod, Int.reduceLT, Int.reduceLE, Int.reduceToNat, Int.reduceAdd, ↓reduceIte, Nat.reduceEqDiff, Nat.reduceAdd, Nat.reduceMul, Nat.reduceSub, Nat.reduceLeDiff, Nat.reduceLT, reduceCtorEq, if_true, eq_self, forall_const, implies_true]
                    (repeat' apply And.intro) <;> first | exact m1 | omega | exact (by refine ⟨[0, 6], by simp [NdL, NdA, oO_cells, oO_own, iL_nil], ?_, ?_, keep0 hJ⟩ <;> simp only [FitM, FitE, ObLe, LeL, Le, List.cons_append, List.nil_append] <;> (try (simp (maxSteps := 2000000) -implicitDefEqProofs only [hZc, hnl1, s_alt, s_alt20, s_alt2t, s_alt2f, ↓s_loopi, ↓v_pq, ↓PRE, POST, CORE, Nat.reduceDiv, Nat.reduceMod, Int.reduceLT, Int.reduceLE, Int.reduceToNat, Int.reduceAdd, ↓reduceIte, Nat.reduceEqDiff, Nat.reduceAdd, Nat.reduceMul, Nat.reduceSub, Nat.reduceLeDiff, Nat.reduceLT, reduceCtorEq, if_true, eq_self, forall_const, implies_true])) <;> (try simp only [Sz.Le, Sz.LeL, List.getElem?_cons_zero, List.getElem?_cons_succ]) <;> (try simp))
        · intro _
          have k1 : ¬ (2 : Int) < 2 := by omega
          have hnt : ns.take 2 = ns := List.take_of_length_le (by omega)
          rw [hnt]
          have hZl : (ns.foldl insA L).length ≤ 4002 := by
            have := foldA_len ns L
            omega
          generalize ns.foldl insA L = Z at hZl ⊢
          by_cases hZ : Z = []
          · obtain ⟨e4, e5⟩ := nil_facts hZ
            rw [e4, e5, e5]
            simp (maxSteps := 2000000) -implicitDefEqProofs only [k1, w2, s_alt, s_alt20, s_alt2t, s_alt2f, ↓s_loopi, ↓v_pq, ↓PRE, POST, CORE, Nat.reduceDiv, Nat.reduceMod, Int.reduceLT, Int.reduceLE, Int.reduceToNat, Int.reduceAdd, ↓reduceIte, Nat.reduceEqDiff, Nat.reduceAdd, Nat.reduceMul, Nat.reduceSub, Nat.reduceLeDiff, Nat.reduceLT, reduceCtorEq, if_true, eq_self, forall_const, implies_true]
            exact (by refine ⟨[], by simp [NdL, NdA, oO_cells, oO_own, iL_nil], ?_, ?_, keep0 hJ⟩ <;> simp only [FitM, FitE, ObLe, LeL, Le, List.cons_append, List.nil_append] <;> (try (simp (maxSteps := 2000000) -implicitDefEqProofs only [iL_fold, iL_over, iL_all, iL_get, iL_len, iL_take, iL_drop, iL_one, iL_plain, iL_le, List.length_set, s_alt, s_alt20, s_alt2t, s_alt2f, ↓s_loopi, ↓v_pq, ↓PRE, POST, CORE, Nat.reduceDiv, Nat.reduceMod, Int.reduceLT, Int.reduceLE, Int.reduceToNat, Int.reduceAdd, ↓reduceIte, Nat.reduceEqDiff, Nat.reduceAdd, Nat.reduceMul, Nat.reduceSub, Nat.reduceLeDiff, Nat.reduceLT, reduceCtorEq, if_true, eq_self, forall_const, implies_true])) <;> (try simp only [Sz.Le, Sz.LeL, List.getElem?_cons_zero, List.getElem?_cons_succ]) <;> (try simp))
          · obtain ⟨e4, e5⟩ := ne_facts hZ
            rw [e4, e5, e5]
            simp (maxSteps := 2000000) -implicitDefEqProofs only [k1, w2, s_alt, s_alt20, s_alt2t, s_alt2f, ↓s_loopi, ↓v_pq, ↓PRE, POST, CORE, Nat.reduceDiv, Nat.reduceMod, Int.reduceLT, Int.reduceLE, Int.reduceToNat, Int.reduceAdd, ↓reduceIte, Nat.reduceEqDiff, Nat.reduceAdd, Nat.reduceMul, Nat.reduceSub, Nat.reduceLeDiff, Nat.reduceLT, reduceCtorEq, if_true, eq_self, forall_const, implies_true]
            exact (by refine ⟨[1], by simp [NdL, NdA, oO_cells, oO_own, iL_nil], ?_, ?_, keep0 hJ⟩ <;> simp only [FitM, FitE, ObLe, LeL, Le, List.cons_append, List.nil_append] <;> (try (simp (maxSteps := 2000000) -implicitDefEqProofs only [iL_fold, iL_over, iL_all, iL_get, iL_len, iL_take, iL_drop, iL_one, iL_plain, iL_le, List.length_set, s_alt, s_alt20, s_alt2t, s_alt2f, ↓s_loopi, ↓v_pq, ↓PRE, POST, CORE, Nat.reduceDiv, Nat.reduceMod, Int.reduceLT, Int.reduceLE, Int.reduceToNat, Int.reduceAdd, ↓reduceIte, Nat.reduceEqDiff, Nat.reduceAdd, Nat.reduceMul, Nat.reduceSub, Nat.reduceLeDiff, Nat.reduceLT, reduceCtorEq, if_true, eq_self, forall_const, implies_true])) <;> (try simp only [Sz.Le, Sz.LeL, List.getElem?_cons_zero, List.getElem?_cons_succ]) <;> (try simp))
    · intro _
      have j1 : ¬ (b.length : Int) < (b.length : Int) := by omega
      rw [List.take_length]
      have hll := fB_len b L0
      generalize b.foldl fB L0 = Z at hll ⊢
      by_cases hZ : Z = []
      · obtain ⟨e4, e5⟩ := nil_facts hZ
        rw [e4, e5]
        simp (maxSteps := 2000000) -implicitDefEqProofs only [j1, w1, s_alt, s_alt20, s_alt2t, s_alt2f, ↓s_loopi, ↓v_pq, ↓PRE, POST, CORE, Nat.reduceDiv, Nat.reduceMod, Int.reduceLT, Int.reduceLE, Int.reduceToNat, Int.reduceAdd, ↓reduceIte, Nat.reduceEqDiff, Nat.reduceAdd, Nat.reduceMul, Nat.reduceSub, Nat.reduceLeDiff, Nat.reduceLT, reduceCtorEq, if_true, eq_self, forall_const, implies_true]
        exact (by refine ⟨[], by simp [NdL, NdA, oO_cells, oO_own, iL_nil], ?_, ?_, keep0 hJ⟩ <;> simp only [FitM, FitE, ObLe, LeL, Le, List.cons_append, List.nil_append] <;> (try (simp (maxSteps := 2000000) -implicitDefEqProofs only [iL_fold, iL_over, iL_all, iL_get, iL_len, iL_take, iL_drop, iL_one, iL_plain, iL_le, List.length_set, s_alt, s_alt20, s_alt2t, s_alt2f, ↓s_loopi, ↓v_pq, ↓PRE, POST, CORE, Nat.reduceDiv, Nat.reduceMod, Int.reduceLT, Int.reduceLE, Int.reduceToNat, Int.reduceAdd, ↓reduceIte, Nat.reduceEqDiff, Nat.reduceAdd, Nat.reduceMul, Nat.reduceSub, Nat.reduceLeDiff, Nat.reduceLT, reduceCtorEq, if_true, eq_self, forall_const, implies_true])) <;> (try simp only [Sz.Le, Sz.LeL, List.getElem?_cons_zero, List.getElem?_cons_succ]) <;> (try simp))
      · obtain ⟨e4, e5⟩ := ne_facts hZ
        rw [e4, e5]
        simp (maxSteps := 2000000) -implicitDefEqProofs only [j1, w1, s_alt, s_alt20, s_alt2t, s_alt2f, ↓s_loopi, ↓v_pq, ↓PRE, POST, CORE, Nat.reduceDiv, Nat.reduceMod, Int.reduceLT, Int.reduceLE, Int.reduceToNat, Int.reduceAdd, ↓reduceIte, Nat.reduceEqDiff, Nat.reduceAdd, Nat.reduceMul, Nat.reduceSub, Nat.reduceLeDiff, Nat.reduceLT, reduceCtorEq, if_true, eq_self, forall_const, implies_true]
        exact (by refine ⟨[0], by simp [NdL, NdA, oO_cells, oO_own, iL_nil], ?_, ?_, keep0 hJ⟩ <;> simp only [FitM, FitE, ObLe, LeL, Le, List.cons_append, List.nil_append] <;> (try (simp (maxSteps := 2000000) -implicitDefEqProofs only [iL_fold, iL_over, iL_all, iL_get, iL_len, iL_take, iL_drop, iL_one, iL_plain, iL_le, List.length_set, s_alt, s_alt20, s_alt2t, s_alt2f, ↓s_loopi, ↓v_pq, ↓PRE, POST, CORE, Nat.reduceDiv, Nat.reduceMod, Int.reduceLT, Int.reduceLE, Int.reduceToNat, Int.reduceAdd, ↓reduceIte, Nat.reduceEqDiff, Nat.reduceAdd, Nat.reduceMul, Nat.reduceSub, Nat.reduceLeDiff, Nat.reduceLT, reduceCtorEq, if_true, eq_self, forall_const, implies_true])) <;> (try simp only [Sz.Le, Sz.LeL, List.getElem?_cons_zero, List.getElem?_cons_succ]) <;> (try simp))
  · intro _
    have j2 : ¬ (2 : Int) < 2 := by omega
    rw [hO.2.2]
    generalize Ra.edN a = Z at hk ⊢
    rw [← vL_iL] at hk ⊢
    simp (maxSteps := 2000000) -implicitDefEqProofs only [j2, s_alt, s_alt20, s_alt2t, s_alt2f, ↓s_loopi, ↓v_pq, ↓PRE, POST, CORE, Nat.reduceDiv, Nat.reduceMod, Int.reduceLT, Int.reduceLE, Int.reduceToNat, Int.reduceAdd, ↓reduceIte, Nat.reduceEqDiff, Nat.reduceAdd, Nat.reduceMul, Nat.reduceSub, Nat.reduceLeDiff, Nat.reduceLT, reduceCtorEq, if_true, eq_self, forall_const, implies_true]
    exact fin_row (cs := fun n : Int => [Value.int .i64 n]) (z := 1) (fun _ => rfl) (by omega) Z _ _ 0 (fun h => by rw [h]; rfl) (fun h => ⟨rS_ne (fun e => h (List.length_eq_zero_iff.1 e)), rM_at (cs := fun n : Int => [Value.int .i64 n]) (z := 1) (fun _ => rfl) (by omega) h⟩) hk
end Rc
end Go.Proofs.Ytcejgadbpahbmaa
end
