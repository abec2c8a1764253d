/- Symbolic walks, part W: what a memory may be turned into behind a walk; functions that make objects that hide what they are made of. No condition. -/
import Derived.Test.YtibefgdjijmncaaSzU
namespace Go.Proofs.Ytibefgdjijmncaa.Sz
open Go.RowKit
set_option linter.unusedVariables false
set_option linter.unusedSimpArgs false
/-- Whatever has this memory and value has the other ones, the first objects in their places. -/
def Turn [Inp] (d : Nat) (m : Mem) (s : SV) (m2 : Mem) (s2 : SV) : Prop :=
  ∀ (base : Nat → Prop) (w0 W : World) (r : List Loc) (u : Value), St base w0 r m W → s.Is r u → ∃ r2, St base w0 r2 m2 W ∧ s2.Is r2 u ∧ ∀ k, k < d → ∀ l, r[k]? = some l → r2[k]? = some l
theorem Turn.refl [Inp] {d : Nat} {m : Mem} {s : SV} : Turn d m s m s := fun base w0 W r u h1 h2 => ⟨r, h1, h2, fun _ _ _ h => h⟩
theorem Turn.trans [Inp] {d : Nat} {m m2 m3 : Mem} {s s2 s3 : SV} (h : Turn d m s m2 s2) (h2 : Turn d m2 s2 m3 s3) : Turn d m s m3 s3 := fun base w0 W r u q1 q2 => by
  obtain ⟨r2, a1, a2, a3⟩ := h base w0 W r u q1 q2
  obtain ⟨r3, b1, b2, b3⟩ := h2 base w0 W r2 u a1 a2
  exact ⟨r3, b1, b2, fun k hk l hl => b3 k hk l (a3 k hk l hl)⟩
theorem Turn.fit [Inp] {d : Nat} {m m2 : Mem} {s s2 : SV} (g : List Nat) (hn : NdL g m2) (hm : FitM g m g m2) (hs : Le g s2 s) (hk : ∀ k, k < d → g[k]? = some k) : Turn d m s m2 s2 := fun base w0 W r u q1 q2 => by
  obtain ⟨a1, a2, _⟩ := fit_sound' (N := 0) (e := fun _ => .any) (l := []) (ts := #[]) hn hm q1
  exact ⟨_, a1, hs.is a2 q2, fun k h l hl => a2 k k (hk k h) l hl⟩
theorem Turn.seal [Inp] {d : Nat} {m : Mem} {s : SV} {j n : Nat} {refs gh : List Nat} {h : List SV} {H : Mem} {Q : List SV → Mem → Prop} (hrn : refs.length = n) (hnd : (j :: (refs ++ gh)).Nodup) (hfm : FitM (j :: (refs ++ gh)) m (j :: (refs ++ gh)) (hidM n h H)) (hQ : Q h H) (hown : ∀ o ∈ H, o.own = true ∨ o.cells = []) :
    Turn d m s ((Sz.killL m gh).set j (absO (hide n Q) refs)) s := fun base w0 W r u q1 q2 => ⟨r, q1.seal hrn hnd hfm hQ hown, q2, fun _ _ _ h => h⟩
section
variable {P : Program} {f : FuncId} {eff : List FuncId} {N : Nat} {x : XC} {rs : List XR}
/-- A function walked with the caller's own memory, what comes of it turned. -/
theorem Contract.fullT [I : Inp] (hF : FnX P f eff N x rs) {G : Inp → List CEntry} (hG : ∀ J, @GOk J P (G J)) (tr : Trans)
    (body : ∀ args m k, tr args m k → args.length ≤ N ∧ ∀ J : Inp, J.keep = m.length → J.at_ = I.at_ → @evX J P N eff (G J) x (slots (argSlots 0 args)) m (fun ex e m' => EndsX ex ∧ evR rs e m' fun s => ∃ m2 s2, @Turn J m.length m' s m2 s2 ∧ k s2 m2)) : Contract P f false tr := by
  refine ⟨hF.enter, fun args m k base w0 W r vs ht hst ha => ?_⟩
  obtain ⟨hlen, hev⟩ := body args m k ht
  have hl := @St.len I _ _ _ _ _ hst
  have hst2 : @St ⟨I.at_, m.length⟩ base w0 r m W := @St.mk ⟨I.at_, m.length⟩ _ _ _ _ _ (@St.low I _ _ _ _ _ hst) (@St.from_ I _ _ _ _ _ hst) (@St.inp I _ _ _ _ _ hst) hl (@St.obj I _ _ _ _ _ hst) (@St.sep I _ _ _ _ _ hst) (@St.hid I _ _ _ _ _ hst)
  refine (@FnX.calls P f eff N x rs (G ⟨I.at_, m.length⟩) ⟨I.at_, m.length⟩ hF (hG _) _ _ _ _ _ _ _ hst2 ha hlen (fun s m' => ∃ m2 s2, @Turn ⟨I.at_, m.length⟩ m.length m' s m2 s2 ∧ k s2 m2) (hev ⟨I.at_, m.length⟩ rfl rfl)).mono ?_
  rintro e W1 ⟨s, m', r', u, ⟨m2, s2, hT, hk⟩, rfl, hst1, hs, hkp⟩
  obtain ⟨r2, hst3, hs2, hkp2⟩ := hT base w0 W1 r' u hst1 hs
  obtain ⟨t, rfl⟩ := @kept_ext' ⟨I.at_, m.length⟩ r r2 _ rfl hl.symm (fun k l hk hl2 => hkp2 k hk l (hkp k l hk hl2))
  exact ⟨s2, m2, t, u, hk, rfl, @St.mk I _ _ _ _ _ (@St.low ⟨I.at_, m.length⟩ _ _ _ _ _ hst3) (@St.from_ ⟨I.at_, m.length⟩ _ _ _ _ _ hst3) (@St.inp ⟨I.at_, m.length⟩ _ _ _ _ _ hst3) (@St.len ⟨I.at_, m.length⟩ _ _ _ _ _ hst3) (@St.obj ⟨I.at_, m.length⟩ _ _ _ _ _ hst3) (@St.sep ⟨I.at_, m.length⟩ _ _ _ _ _ hst3) (@St.hid ⟨I.at_, m.length⟩ _ _ _ _ _ hst3), hs2, fun h => by cases h⟩
/-- A function that reads, and gives new objects, what comes of it turned. -/
theorem Contract.readT [I : Inp] (hF : FnX P f eff N x rs) {G : Inp → List CEntry} (hG : ∀ J, @GOk J P (G J)) (tr : Trans)
    (body : ∀ args m k, tr args m k → args.length ≤ N ∧ ∀ (J : Inp), J.keep = 0 → ∀ (us : List Value), KnowsL I J m args us → @evX J P N eff (G J) x (slots (argSlots 0 (us.map SV.of))) [] (fun ex e m' => EndsX ex ∧ evR rs e m' fun s => ∃ (m2 : Mem) (s2 : SV), @Turn J 0 m' s m2 s2 ∧ (∀ o ∈ m2, o.own = true) ∧ k (s2.up m.length) (m ++ m2.map (SObj.up m.length)))) : Contract P f true tr := by
  refine ⟨hF.enter, fun args m k base w0 W r vs ht hst ha => ?_⟩
  obtain ⟨hlen, hev⟩ := body args m k ht
  have hk := knowsL_of hst ha
  have hvl := IsL_len ha
  refine (@FnX.calls P f eff N x rs (G (inpOf W)) (inpOf W) hF (hG (inpOf W)) _ _ _ _ _ _ _ (St.inpOf W) (isL_of vs) (by simp; omega) (fun s m' => ∃ (m2 : Mem) (s2 : SV), @Turn (inpOf W) 0 m' s m2 s2 ∧ (∀ o ∈ m2, o.own = true) ∧ k (s2.up m.length) (m ++ m2.map (SObj.up m.length))) (hev (inpOf W) rfl vs hk)).mono ?_
  rintro e W1 ⟨s, m', r', u, ⟨m2, s2, hT, hown, hk⟩, rfl, hst1, hs, _⟩
  have hb : Below W.heap.size W W1 := (@St.low (inpOf W) _ _ _ _ _ hst1).below
  obtain ⟨r2, hst2, hs2, _⟩ := hT _ _ _ r' u hst1 hs
  have hj := St.join2 I (inpOf W) hst hst2 hown
  rw [← hst.len] at hk
  exact ⟨_, _, r2, u, hk, rfl, hj, up_is hs2, fun _ => Same.below hst hb⟩
end
end Go.Proofs.Ytibefgdjijmncaa.Sz
