/- Symbolic walks, part H: loops; functions. No condition. -/
import Derived.Test.YtppndeoiifkkkaaSyG
import Derived.Deep.LoopGhost
namespace Go.Proofs.Ytppndeoiifkkkaa.Sy
open Go.RowKit
set_option linter.unusedVariables false
set_option linter.unusedSimpArgs false
mutual
/-- A symbolic value, numbers of objects read by a list: what it says is less, or the same. -/
def Le (g : List Nat) : SV → SV → Prop
  | .any, _ => True
  | .v x, s => s = .v x
  | .ptr k o, s => match g[k]? with | some k' => s = .ptr k' o | none => False
  | .row k o n sz, s => match g[k]? with | some k' => s = .row k' o n sz | none => False
  | .agg cs, s => match s with | .agg ds => LeL g cs ds | _ => False
  | .tup cs, s => match s with | .tup ds => LeL g cs ds | _ => False
  | .fn f cs, s => match s with | .fn f' ds => f' = f ∧ LeL g cs ds | _ => False
  | .emp, s => s = .emp
def LeL (g : List Nat) : List SV → List SV → Prop
  | [], ds => ds = []
  | c :: cs, ds => match ds with | d :: ds => Le g c d ∧ LeL g cs ds | [] => False
end
mutual
theorem Le.is {g : List Nat} {r r' : List Loc} (hr : ∀ (j k : Nat), g[j]? = some k → ∀ l, r[k]? = some l → r'[j]? = some l) : ∀ {s' s : SV} {u : Value}, Le g s' s → s.Is r u → s'.Is r' u
  | .any, s, u, h, hs => by simp only [SV.Is]
  | .emp, s, u, h, hs => by simp only [Le] at h; subst h; simpa only [SV.Is] using hs
  | .v x, s, u, h, hs => by simp only [Le] at h; subst h; simpa only [SV.Is] using hs
  | .ptr k o, s, u, h, hs => by
    simp only [Le] at h
    split at h
    · rename_i k' hk
      subst h
      simp only [SV.Is] at hs ⊢
      obtain ⟨l, hl, hu⟩ := hs
      exact ⟨l, hr _ _ hk _ hl, hu⟩
    · exact h.elim
  | .row k o n sz, s, u, h, hs => by
    simp only [Le] at h
    split at h
    · rename_i k' hk
      subst h
      simp only [SV.Is] at hs ⊢
      obtain ⟨l, cap, hl, hu⟩ := hs
      exact ⟨l, cap, hr _ _ hk _ hl, hu⟩
    · exact h.elim
  | .agg cs, s, u, h, hs => by
    simp only [Le] at h
    split at h
    · simp only [SV.Is] at hs ⊢
      obtain ⟨us, hu, hus⟩ := hs
      exact ⟨us, hu, LeL.is hr h hus⟩
    · exact h.elim
  | .tup cs, s, u, h, hs => by
    simp only [Le] at h
    split at h
    · simp only [SV.Is] at hs ⊢
      obtain ⟨us, hu, hus⟩ := hs
      exact ⟨us, hu, LeL.is hr h hus⟩
    · exact h.elim
  | .fn f cs, s, u, h, hs => by
    simp only [Le] at h
    split at h
    · obtain ⟨rfl, h⟩ := h
      simp only [SV.Is] at hs ⊢
      obtain ⟨us, hu, hus⟩ := hs
      exact ⟨us, hu, LeL.is hr h hus⟩
    · exact h.elim
theorem LeL.is {g : List Nat} {r r' : List Loc} (hr : ∀ (j k : Nat), g[j]? = some k → ∀ l, r[k]? = some l → r'[j]? = some l) : ∀ {s' s : List SV} {u : List Value}, LeL g s' s → SV.IsL r s u → SV.IsL r' s' u
  | [], s, u, h, hs => by simp only [LeL] at h; subst h; simpa only [SV.IsL] using hs
  | c :: cs, s, u, h, hs => by
    simp only [LeL] at h
    split at h
    · simp only [SV.IsL] at hs ⊢
      obtain ⟨x, y, h1, h2, h3⟩ := hs
      exact ⟨x, y, h1, Le.is hr h.1 h2, LeL.is hr h.2 h3⟩
    · exact h.elim
end
theorem LeL_len {g : List Nat} : ∀ {s' s : List SV}, LeL g s' s → s.length = s'.length
  | [], s, h => by simp only [LeL] at h; subst h; rfl
  | c :: cs, s, h => by
    simp only [LeL] at h
    split at h
    · simp [LeL_len h.2]
    · exact h.elim
theorem LeL_v (g : List Nat) : ∀ l : List Value, LeL g (l.map SV.v) (l.map SV.v)
  | [] => by simp [LeL]
  | x :: l => by simp only [List.map_cons, LeL, Le]; exact ⟨trivial, LeL_v g l⟩
def ObLe (g : List Nat) (o' o : SObj) : Prop := (o'.own = false ∧ o'.cells = []) ∨ ((o'.own = true → o.own = true) ∧ LeL g o'.cells o.cells)
def FitM (g : List Nat) (m : Mem) : List Nat → Mem → Prop
  | [], [] => True
  | k :: ks, o' :: m' => (match m[k]? with | some o => ObLe g o' o | none => False) ∧ FitM g m ks m'
  | _, _ => False
def FitE (g : List Nat) (e : Env) : List (Nat × SV) → Prop
  | [] => True
  | (t, s) :: l => Le g s (e t) ∧ FitE g e l
def slots : List (Nat × SV) → Env
  | [] => fun _ => .any
  | (t, s) :: l => fun x => if x = t then s else slots l x
def Fit (e : Env) (m : Mem) (l : List (Nat × SV)) (m' : Mem) : Prop := ∃ g : List Nat, g.Nodup ∧ FitM g m g m' ∧ FitE g e l
theorem slots_le {g : List Nat} {e : Env} : ∀ {l : List (Nat × SV)}, FitE g e l → ∀ t, Le g (slots l t) (e t)
  | [], h, t => by simp [slots, Le]
  | (t', s) :: l, h, t => by
    simp only [FitE] at h
    simp only [slots]
    split
    · rename_i ht; subst ht; exact h.1
    · exact slots_le h.2 t
theorem FitM_get {g : List Nat} {m : Mem} : ∀ {ks : List Nat} {m' : Mem}, FitM g m ks m' → ks.length = m'.length ∧ ∀ (j : Nat) (o' : SObj), m'[j]? = some o' → ∃ k o, ks[j]? = some k ∧ m[k]? = some o ∧ ObLe g o' o
  | [], [], h => ⟨rfl, fun j o' hj => by simp at hj⟩
  | k :: ks, o :: m', h => by
    simp only [FitM] at h
    obtain ⟨h1, h2⟩ := FitM_get h.2
    refine ⟨by simp [h1], fun j o' hj => ?_⟩
    cases j with
    | zero =>
      simp at hj; subst hj
      have h0 := h.1
      split at h0
      · rename_i o2 ho; exact ⟨k, o2, rfl, ho, h0⟩
      · exact h0.elim
    | succ j =>
      obtain ⟨k2, o2, q1, q2, q3⟩ := h2 j o' (by simpa using hj)
      exact ⟨k2, o2, by simpa using q1, q2, q3⟩
  | [], _ :: _, h => by simp [FitM] at h
  | _ :: _, [], h => by simp [FitM] at h
theorem fit_sound {N : Nat} {g : List Nat} {e : Env} {m m' : Mem} {l : List (Nat × SV)} {base : Nat → Prop} {w0 W : World} {r : List Loc} {ts : Array Value} (hn : g.Nodup) (hm : FitM g m g m') (hst : St base w0 r m W) :
    ∃ r', St base w0 r' m' W ∧ (∀ (j k : Nat), g[j]? = some k → ∀ l, r[k]? = some l → r'[j]? = some l) ∧ (FitE g e l → EnvIs N r e ts → EnvIs N r' (slots l) ts) := by
  obtain ⟨h1, h2⟩ := FitM_get hm
  have hr : ∀ (j k : Nat), g[j]? = some k → ∀ l, r[k]? = some l → (g.map fun k => r.getD k ⟨0, 0, 0⟩)[j]? = some l := by
    intro j k hj l hl
    rw [List.getElem?_map, hj]
    simp [List.getD, hl]
  refine ⟨g.map fun k => r.getD k ⟨0, 0, 0⟩, ⟨hst.low, hst.from_, by simp [h1], ?_, ?_⟩, hr, fun hE he => ⟨he.size, fun t => (slots_le hE t).is hr (he.is t)⟩⟩
  · intro j l' o' hl ho
    obtain ⟨k, o, q1, q2, q3⟩ := h2 j o' ho
    have hlen := hst.len
    have hk : k < r.length := by rw [hlen]; exact (List.getElem?_eq_some_iff.1 q2).1
    have := hr j k q1 _ (List.getElem?_eq_getElem hk)
    rw [hl] at this
    injection this with this
    subst this
    obtain ⟨⟨c, T, fr, g1, g2, g3, g4⟩, g5, g6⟩ := hst.obj k _ o (List.getElem?_eq_getElem hk) q2
    rcases q3 with ⟨ho1, ho2⟩ | ⟨ho1, ho2⟩
    · exact ⟨⟨c, T, fr, g1, g2, by rw [ho2]; simp [SV.IsL], by rw [ho1]; simp⟩, by rw [ho2]; simp, by rw [ho1]; simp⟩
    · refine ⟨⟨c, T, fr, g1, g2, ?_, fun h => g4 (ho1 h)⟩, by rw [← LeL_len ho2]; exact g5, fun h => g6 (ho1 h)⟩
      rw [← LeL_len ho2]
      exact LeL.is hr ho2 g3
  · intro j1 j2 l1 l2 o1 o2 hl1 hl2 ho1 ho2 hne hown hal
    obtain ⟨k1, p1, a1, a2, a3⟩ := h2 j1 o1 ho1
    obtain ⟨k2, p2, b1, b2, b3⟩ := h2 j2 o2 ho2
    have hlen := hst.len
    have hk1 : k1 < r.length := by rw [hlen]; exact (List.getElem?_eq_some_iff.1 a2).1
    have hk2 : k2 < r.length := by rw [hlen]; exact (List.getElem?_eq_some_iff.1 b2).1
    have e1 := hr j1 k1 a1 _ (List.getElem?_eq_getElem hk1)
    have e2 := hr j2 k2 b1 _ (List.getElem?_eq_getElem hk2)
    rw [hl1] at e1; injection e1 with e1; subst e1
    rw [hl2] at e2; injection e2 with e2; subst e2
    have hk : k1 ≠ k2 := by
      rintro rfl
      obtain ⟨q1, q2⟩ := List.getElem?_eq_some_iff.1 a1
      obtain ⟨q3, q4⟩ := List.getElem?_eq_some_iff.1 b1
      have hp := List.pairwise_iff_getElem.1 hn
      rcases Nat.lt_or_gt_of_ne hne with hlt | hlt
      · exact hp j1 j2 q1 q3 hlt (q2.trans q4.symm)
      · exact hp j2 j1 q3 q1 hlt (q4.trans q2.symm)
    have hown1 : p1.own = true := by
      rcases a3 with ⟨h, _⟩ | ⟨h, _⟩
      · rw [h] at hown; cases hown
      · exact h hown
    have hal2 : p2.own = true ∨ p2.cells ≠ [] := by
      rcases b3 with ⟨h, h'⟩ | ⟨h, h'⟩
      · rcases hal with hh | hh
        · rw [h] at hh; cases hh
        · exact (hh h').elim
      · rcases hal with hh | hh
        · exact .inl (h hh)
        · refine .inr fun e => hh ?_
          have := LeL_len h'
          rw [e] at this
          exact List.length_eq_zero_iff.1 this.symm
    exact hst.sep k1 k2 _ _ p1 p2 (List.getElem?_eq_getElem hk1) (List.getElem?_eq_getElem hk2) a2 b2 hk hown1 hal2
section
variable {P : Program} {N : Nat} {eff : List FuncId} {G : List CEntry}
/-- A loop: what the slots and the memory are, for a number that each round lowers. -/
theorem TX_loop (hG : GOk P G) {X : Type} (L : X → List (Nat × SV)) (M : X → Mem) (u : X → Nat) (x0 : X) {body : XC} {e : Env} {m : Mem} {Q : Post} (h0 : Fit e m (L x0) (M x0))
    (round : ∀ x, evX P N eff G body (slots (L x)) (M x) (thenQ (fun e' m' => ∃ x', u x' < u x ∧ Fit e' m' (L x') (M x')) Q)) : TX P N eff (.loop body) e m Q := by
  intro c hc base w0 W r a hst he
  unfold compC at hc
  split at hc
  case h_7 c1 =>
    obtain ⟨x1, hx1, hc⟩ := Option.map_eq_some_iff.1 hc
    injection hc with hc; subst hc
    refine wp_loop_ghost (fun n a' W' => ∃ x r', n = u x ∧ St base w0 r' (M x) W' ∧ EnvIs N r' (slots (L x)) a'.tmps ∧ a'.defers = a.defers) (u x0) ?_ ?_
    · obtain ⟨g, hn, hm, hE⟩ := h0
      obtain ⟨r', h1, h2, h3⟩ := fit_sound (N := N) (e := e) (l := L x0) (ts := a.tmps) hn hm hst
      exact ⟨x0, r', rfl, h1, h3 hE he, rfl⟩
    · rintro n a1 W1 ⟨x, r1, rfl, hst1, he1, hd1⟩
      refine wp_mono (evX_sound hG _ (round x) c1 hx1 base w0 W1 r1 a1 hst1 he1) ?_
      rintro ex a2 W2 ⟨hgo, e2, m2, r2, hq, hst2, he2, hd2⟩
      cases ex <;> simp only [Exit.then]
      case normal =>
        simp only [thenQ] at hq
        obtain ⟨x', hlt, g, hn, hm, hE⟩ := hq
        obtain ⟨r', h1, h2, h3⟩ := fit_sound (N := N) (e := e2) (l := L x') (ts := a2.tmps) hn hm hst2
        exact ⟨u x', hlt, x', r', rfl, h1, h3 hE he2, hd2.trans hd1⟩
      case exit i => exact ⟨trivial, e2, m2, r2, hq, hst2, he2, hd2.trans hd1⟩
      case ret => exact ⟨trivial, e2, m2, r2, hq, hst2, he2, hd2.trans hd1⟩
      all_goals exact hgo.elim
  all_goals first | (cases hc; done) | (obtain ⟨x1, hx1, hc⟩ := Option.bind_eq_some_iff.1 hc; obtain ⟨x2, hx2, hc⟩ := Option.map_eq_some_iff.1 hc; cases hc; done) | (obtain ⟨x1, hx1, hc⟩ := Option.map_eq_some_iff.1 hc; cases hc; done) | (split at hc <;> first | (cases hc; done) | (obtain ⟨x1, hx1, hc⟩ := Option.map_eq_some_iff.1 hc; cases hc; done))
/-- A loop's rounds, one behind the other, so many at most. -/
def unr (P : Program) (N : Nat) (eff : List FuncId) (G : List CEntry) (body : XC) (Q : Post) : Nat → Env → Mem → Prop
  | 0, _, _ => False
  | n + 1, e, m => evX P N eff G body e m (thenQ (fun e m => unr P N eff G body Q n e m) Q)
theorem TX_unroll (hG : GOk P G) {body : XC} {e : Env} {m : Mem} {Q : Post} (n : Nat) (h : unr P N eff G body Q n e m) : TX P N eff (.loop body) e m Q := by
  intro c hc base w0 W r a hst he
  unfold compC at hc
  split at hc
  case h_7 c1 =>
    obtain ⟨x1, hx1, hc⟩ := Option.map_eq_some_iff.1 hc
    injection hc with hc; subst hc
    refine wp_loop_ghost (fun n a' W' => ∃ e' m' r', unr P N eff G x1 Q n e' m' ∧ St base w0 r' m' W' ∧ EnvIs N r' e' a'.tmps ∧ a'.defers = a.defers) n ⟨e, m, r, h, hst, he, rfl⟩ ?_
    rintro n a1 W1 ⟨e1, m1, r1, hu, hst1, he1, hd1⟩
    cases n with
    | zero => exact hu.elim
    | succ n =>
      refine wp_mono (evX_sound hG _ hu c1 hx1 base w0 W1 r1 a1 hst1 he1) ?_
      rintro ex a2 W2 ⟨hgo, e2, m2, r2, hq, hst2, he2, hd2⟩
      cases ex <;> simp only [Exit.then]
      case normal => exact ⟨n, by omega, e2, m2, r2, hq, hst2, he2, hd2.trans hd1⟩
      case exit i => exact ⟨trivial, e2, m2, r2, hq, hst2, he2, hd2.trans hd1⟩
      case ret => exact ⟨trivial, e2, m2, r2, hq, hst2, he2, hd2.trans hd1⟩
      all_goals exact hgo.elim
  all_goals first | (cases hc; done) | (obtain ⟨x1, hx1, hc⟩ := Option.bind_eq_some_iff.1 hc; obtain ⟨x2, hx2, hc⟩ := Option.map_eq_some_iff.1 hc; cases hc; done) | (obtain ⟨x1, hx1, hc⟩ := Option.map_eq_some_iff.1 hc; cases hc; done) | (split at hc <;> first | (cases hc; done) | (obtain ⟨x1, hx1, hc⟩ := Option.map_eq_some_iff.1 hc; cases hc; done))
end
end Go.Proofs.Ytppndeoiifkkkaa.Sy
