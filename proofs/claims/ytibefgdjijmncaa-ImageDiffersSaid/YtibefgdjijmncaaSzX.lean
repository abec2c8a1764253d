/- Symbolic walks, part X: functions that read rows in rows. No condition. -/
import Derived.Test.YtibefgdjijmncaaSzW
namespace Go.Proofs.Ytibefgdjijmncaa.Sz
open Go.RowKit
set_option linter.unusedVariables false
set_option linter.unusedSimpArgs false
/-- The same of each. -/
def KL (K : SV → Value → Prop) : List SV → List Value → Prop
  | [], us => us = []
  | s :: ss, us => ∃ u t, us = u :: t ∧ K s u ∧ KL K ss t
/-- What a reader knows of what it is given: it may look into it. -/
structure Kn (I J : Inp) (m : Mem) (K : SV → Value → Prop) : Prop where
  v : ∀ (x u : Value), K (.v x) u → u = x
  agg : ∀ (cs : List SV) (u : Value), K (.agg cs) u → ∃ us : List Value, u = .agg us.toArray ∧ KL K cs us
  sl : ∀ (z n : Nat) (s : SV) (xs : List SV) (u : Value), @slOf I m z s = some (n, xs) → K s u → ∃ p c us, u = .slice p n c ∧ KL K xs us ∧ @inpL J p (n * z) = some us
  inp : ∀ (p : Option Addr) (k : Nat) (vs : List Value), @inpL I p k = some vs → @inpL J p k = some vs
theorem KL_of {r : List Loc} : ∀ {xs : List SV} {us : List Value}, SV.IsL r xs us → KL (fun s u => s.Is r u) xs us
  | [], us, h => by simpa only [SV.IsL, KL] using h
  | s :: ss, us, h => by
    simp only [SV.IsL] at h
    obtain ⟨u, t, rfl, h1, h2⟩ := h
    exact ⟨u, t, rfl, h1, KL_of h2⟩
theorem KL_v {K : SV → Value → Prop} (hK : ∀ (x u : Value), K (.v x) u → u = x) : ∀ {ys us : List Value}, KL K (ys.map .v) us → us = ys
  | [], us, h => by simpa only [List.map_nil, KL] using h
  | y :: ys, us, h => by
    obtain ⟨u, t, rfl, h1, h2⟩ := h
    rw [hK _ _ h1, KL_v hK h2]
theorem KL_append {K : SV → Value → Prop} : ∀ {xs ys : List SV} {us : List Value}, KL K (xs ++ ys) us → ∃ a b, us = a ++ b ∧ KL K xs a ∧ KL K ys b
  | [], ys, us, h => ⟨[], us, rfl, rfl, h⟩
  | x :: xs, ys, us, h => by
    obtain ⟨u, t, rfl, h1, h2⟩ := h
    obtain ⟨a, b, rfl, h3, h4⟩ := KL_append h2
    exact ⟨u :: a, b, rfl, ⟨u, a, rfl, h1, h3⟩, h4⟩
theorem kn_of {I : Inp} {base : Nat → Prop} {w0 W : World} {r : List Loc} {m : Mem} (hst : St base w0 r m W) : Kn I (inpOf W) m (fun s u => s.Is r u) := by
  refine ⟨fun x u h => by simpa only [SV.Is] using h, fun cs u h => ?_, fun z n s xs u h hs => ?_, fun p k vs h => inp_from hst h⟩
  · simp only [SV.Is] at h
    obtain ⟨us, h1, h2⟩ := h
    exact ⟨us, h1, KL_of h2⟩
  · obtain ⟨p, c, us, rfl, hus, hlen, hcell⟩ := sl_cells hst h hs
    have hxl := slOf_len h
    refine ⟨p, c, us, rfl, KL_of hus, inpL_of (I := inpOf W) (by omega) fun hne => ?_⟩
    rcases hcell with ⟨a, rfl, hc⟩ | ⟨_, h0⟩
    · have hc := hc W (Same.refl _ _)
      refine ⟨a, rfl, ?_, hc⟩
      obtain ⟨x, hx⟩ : ∃ x, us[0]? = some x := by
        cases us with
        | nil => exact (hne rfl).elim
        | cons x _ => exact ⟨x, rfl⟩
      have := hc 0 x hx
      rw [add_zero_addr] at this
      exact World.cell?_spot this
    · exact (hne h0).elim
section
variable {P : Program} {f : FuncId} {eff : List FuncId} {N : Nat} {x : XC} {rs : List XR}
/-- A function that only reads, and gives a plain value: its arguments are plain, what they lead to is input. -/
theorem Contract.readG [I : Inp] (hF : FnX P f eff N x rs) {G : Inp → List CEntry} (hG : ∀ J, @GOk J P (G J)) (tr : Trans)
    (body : ∀ args m k, tr args m k → args.length ≤ N ∧ ∀ (J : Inp), J.keep = 0 → ∀ K, Kn I J m K → ∀ (us : List Value), KL K args us → @evX J P N eff (G J) x (slots (argSlots 0 (us.map SV.of))) [] (fun ex e m' => EndsX ex ∧ evR rs e m' fun s => s.plain = true ∧ k s m)) : Contract P f true tr := by
  refine ⟨hF.enter, fun args m k base w0 W r vs ht hst ha => ?_⟩
  obtain ⟨hlen, hev⟩ := body args m k ht
  have hvl := IsL_len ha
  refine (@FnX.calls P f eff N x rs (G (inpOf W)) (inpOf W) hF (hG (inpOf W)) _ _ _ _ _ _ _ (St.inpOf W) (isL_of vs) (by simp; omega) (fun s _ => s.plain = true ∧ k s m) (hev (inpOf W) rfl _ (kn_of hst) vs (KL_of ha))).mono ?_
  rintro e W1 ⟨s, m', r', u, ⟨hp, hk⟩, rfl, hst1, hs, _⟩
  have hb : Below W.heap.size W W1 := (@St.low (inpOf W) _ _ _ _ _ hst1).below
  exact ⟨s, m, [], u, hk, rfl, by simpa using hst.below hb, plain_is hp hs, fun _ => Same.below hst hb⟩
/-- The same, of a function that gives new objects. -/
theorem Contract.readFG [I : Inp] (hF : FnX P f eff N x rs) {G : Inp → List CEntry} (hG : ∀ J, @GOk J P (G J)) (tr : Trans)
    (body : ∀ args m k, tr args m k → args.length ≤ N ∧ ∀ (J : Inp), J.keep = 0 → ∀ K, Kn I J m K → ∀ (us : List Value), KL K args us → @evX J P N eff (G J) x (slots (argSlots 0 (us.map SV.of))) [] (fun ex e m' => EndsX ex ∧ evR rs e m' fun s => ∃ (g2 : List Nat) (s2 : SV) (m2 : Mem), g2.Nodup ∧ FitM g2 m' g2 m2 ∧ (∀ o ∈ m2, o.own = true) ∧ Le g2 s2 s ∧ k (s2.up m.length) (m ++ m2.map (SObj.up m.length)))) : Contract P f true tr := by
  refine ⟨hF.enter, fun args m k base w0 W r vs ht hst ha => ?_⟩
  obtain ⟨hlen, hev⟩ := body args m k ht
  have hvl := IsL_len ha
  refine (@FnX.calls P f eff N x rs (G (inpOf W)) (inpOf W) hF (hG (inpOf W)) _ _ _ _ _ _ _ (St.inpOf W) (isL_of vs) (by simp; omega) (fun s m' => ∃ (g2 : List Nat) (s2 : SV) (m2 : Mem), g2.Nodup ∧ FitM g2 m' g2 m2 ∧ (∀ o ∈ m2, o.own = true) ∧ Le g2 s2 s ∧ k (s2.up m.length) (m ++ m2.map (SObj.up m.length))) (hev (inpOf W) rfl _ (kn_of hst) vs (KL_of ha))).mono ?_
  rintro e W1 ⟨s, m', r', u, ⟨g2, s2, m2, hn2, hm2, hown, hle2, hk⟩, rfl, hst1, hs, _⟩
  have hb : Below W.heap.size W W1 := (@St.low (inpOf W) _ _ _ _ _ hst1).below
  obtain ⟨r2, hst2, hr2, _⟩ := @fit_sound (inpOf W) 0 _ (fun _ => .any) _ _ [] _ _ _ _ #[] (NdL_of hn2) hm2 hst1
  have hj := St.join2 I (inpOf W) hst hst2 hown
  rw [← hst.len] at hk
  exact ⟨_, _, r2, u, hk, rfl, hj, up_is (Le.is hr2 hle2 hs), fun _ => Same.below hst hb⟩
/-- A function that is handed over stays what it is; all else is plain. -/
def plF (s : SV) (u : Value) : SV := match s with
  | .fn f [] => .fn f []
  | _ => SV.of u
theorem plF_is {r : List Loc} {s : SV} {u : Value} (h : s.Is r u) : (plF s u).Is [] u := by
  unfold plF
  split
  · simpa only [SV.Is, SV.IsL] using h
  · exact SV.of_is [] u
theorem plF_isL {r : List Loc} : ∀ {ss : List SV} {us : List Value}, SV.IsL r ss us → SV.IsL [] (List.zipWith plF ss us) us
  | [], us, h => by simp only [SV.IsL] at h; subst h; simp [SV.IsL]
  | s :: ss, us, h => by
    simp only [SV.IsL] at h
    obtain ⟨u, t, rfl, h1, h2⟩ := h
    simp only [List.zipWith_cons_cons, SV.IsL]
    exact ⟨u, t, rfl, plF_is h1, plF_isL h2⟩
/-- A function that reads, and may be handed functions. -/
theorem Contract.readGf [I : Inp] (hF : FnX P f eff N x rs) {G : Inp → List CEntry} (hG : ∀ J, @GOk J P (G J)) (tr : Trans)
    (body : ∀ args m k, tr args m k → args.length ≤ N ∧ ∀ (J : Inp), J.keep = 0 → ∀ K, Kn I J m K → ∀ (us : List Value), KL K args us → @evX J P N eff (G J) x (slots (argSlots 0 (List.zipWith plF args us))) [] (fun ex e m' => EndsX ex ∧ evR rs e m' fun s => s.plain = true ∧ k s m)) : Contract P f true tr := by
  refine ⟨hF.enter, fun args m k base w0 W r vs ht hst ha => ?_⟩
  obtain ⟨hlen, hev⟩ := body args m k ht
  have hvl := IsL_len ha
  refine (@FnX.calls P f eff N x rs (G (inpOf W)) (inpOf W) hF (hG (inpOf W)) _ _ _ _ _ _ _ (St.inpOf W) (plF_isL ha) (by simp; omega) (fun s _ => s.plain = true ∧ k s m) (hev (inpOf W) rfl _ (kn_of hst) vs (KL_of ha))).mono ?_
  rintro e W1 ⟨s, m', r', u, ⟨hp, hk⟩, rfl, hst1, hs, _⟩
  have hb : Below W.heap.size W W1 := (@St.low (inpOf W) _ _ _ _ _ hst1).below
  exact ⟨s, m, [], u, hk, rfl, by simpa using hst.below hb, plain_is hp hs, fun _ => Same.below hst hb⟩
/-- Many ways into one loop. -/
theorem TXi_key [Inp] {x : XC} {b : PBox} {e1 : Env} {m1 : Mem} {R : Prop} (C : Env → Mem → Prop) (h1 : C e1 m1) (hR : (∀ e m, C e m → @TXi _ P N eff x e m b) → R) (key : ∀ e m, C e m → @TXi _ P N eff x e m b) : @TXi _ P N eff x e1 m1 b ∧ R := ⟨key _ _ h1, hR key⟩
end
end Go.Proofs.Ytibefgdjijmncaa.Sz
