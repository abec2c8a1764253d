/- Symbolic walks, part J: contracts out of bodies. No condition. -/
import Derived.Test.YtibefgdjijmncaaSzI
namespace Go.Proofs.Ytibefgdjijmncaa.Sz
open Go.RowKit
set_option linter.unusedVariables false
set_option linter.unusedSimpArgs false
/-- Arguments, as slots. -/
def argSlots (k : Nat) : List SV → List (Nat × SV)
  | [] => []
  | s :: l => (k, s) :: argSlots (k + 1) l
theorem argSlots_is {r : List Loc} : ∀ {l : List SV} {us : List Value} (k : Nat) (pre post : Array Value), pre.size = k → SV.IsL r l us → ∀ t, (slots (argSlots k l) t).Is r ((pre ++ us.toArray ++ post).getD t undef)
  | [], us, k, pre, post, hp, h, t => by simp [argSlots, slots, SV.Is]
  | s :: l, us, k, pre, post, hp, h, t => by
    simp only [SV.IsL] at h
    obtain ⟨x, y, rfl, h1, h2⟩ := h
    simp only [argSlots, slots]
    split
    · rename_i ht
      subst ht
      rw [show (pre ++ (x :: y).toArray ++ post).getD t undef = x by
        have hlt : t < (pre ++ (x :: y).toArray ++ post).size := by simp; omega
        rw [Array.getD_eq_getD_getElem?, Array.getElem?_append_left (by simp; omega), Array.getElem?_append_right (by omega)]
        simp [hp]]
      exact h1
    · have := argSlots_is (k + 1) (pre.push x) post (by simp [hp]) h2 t
      rw [show pre ++ (x :: y).toArray ++ post = pre.push x ++ y.toArray ++ post by
        apply Array.ext'; simp]
      exact this
/-- What a function's text is, for a walk. -/
structure FnX (P : Program) (f : FuncId) (eff : List FuncId) (N : Nat) (x : XC) (rs : List XR) : Prop where
  fn : ∃ fn, P.funcs[f]? = some fn ∧ (fn.name == "runtime.NumGoroutine") = false ∧ fn.ntmps = N ∧ fn.body.bind (compC P N eff) = some x ∧ compR P fn.results.toList = some rs
theorem FnX.enter {P : Program} {f : FuncId} {eff : List FuncId} {N : Nat} {x : XC} {rs : List XR} (h : FnX P f eff N x rs) : Enterable P f := by
  obtain ⟨fn, h1, h2, h3, h5, h6⟩ := h
  obtain ⟨c, h4, h5⟩ := Option.bind_eq_some_iff.1 h5
  exact ⟨fn, h1, h2, by rw [h4]; rfl⟩
def EndsX : Exit → Prop
  | .normal | .ret => True
  | _ => False
section
variable {P : Program} {f : FuncId} {eff : List FuncId} {N : Nat} {x : XC} {rs : List XR} {G : List CEntry}
/-- A function's body, entered. -/
theorem FnX.calls [Inp] (hF : FnX P f eff N x rs) (hG : GOk P G) {base : Nat → Prop} {w0 W : World} {r : List Loc} {m : Mem} {args : List SV} {vs : List Value} (hst : St base w0 r m W) (ha : SV.IsL r args vs) (hlen : args.length ≤ N)
    {R : SV → Mem → Prop} (hev : evX P N eff G x (slots (argSlots 0 args)) m (fun ex e m => EndsX ex ∧ evR rs e m fun s => R s m)) :
    Calls P f vs.toArray W fun e W1 => ∃ s m' r' u, R s m' ∧ e = .returned u ∧ St base w0 r' m' W1 ∧ s.Is r' u ∧ Kp r r' := by
  obtain ⟨fn, h1, h2, h3, h5, h6⟩ := hF
  obtain ⟨c, h4, h5⟩ := Option.bind_eq_some_iff.1 h5
  refine calls_of_wp h1 h4 ?_
  have hvl := IsL_len ha
  have he : EnvIs N r (slots (argSlots 0 args)) (vs.toArray ++ Array.replicate (fn.ntmps - vs.toArray.size) undef) := by
    refine ⟨by simp; omega, fun t => ?_⟩
    have := argSlots_is 0 #[] (Array.replicate (fn.ntmps - vs.toArray.size) undef) rfl ha t
    simpa using this
  refine wp_mono (evX_sound hG x hev c h5 base w0 W r _ hst he) ?_
  rintro ex a1 W1 ⟨hgo, e1, m1, r1, ⟨hend, hq⟩, hst1, he1, hd, hkp⟩
  obtain ⟨s, u, g1, g2, g3⟩ := evR_sound h6 hq hst1 he1
  cases ex <;> simp only [bodyPost]
  case normal => exact ⟨hd, u, g3, s, m1, r1, u, g1, rfl, hst1, g2, hkp⟩
  case ret => exact ⟨hd, u, g3, s, m1, r1, u, g1, rfl, hst1, g2, hkp⟩
  all_goals first | exact hgo.elim | exact hend.elim
/-- What the callee sees: some objects, read alone. -/
theorem view [Inp] {base : Nat → Prop} {w0 W : World} {r : List Loc} {m m0 : Mem} {g : List Nat} (hn : g.Nodup) (hm : FitM g m g m0) (hro : ∀ o ∈ m0, o.own = false) (hst : St base w0 r m W) :
    ∃ r0, St (fun k => W.heap.size ≤ k) W r0 m0 W ∧ ∀ {args0 args : List SV} {vs : List Value}, LeL g args0 args → SV.IsL r args vs → SV.IsL r0 args0 vs := by
  obtain ⟨r0, h1, h2, _⟩ := fit_sound (N := 0) (e := fun _ => .any) (l := []) (ts := #[]) (NdL_of hn) hm hst
  refine ⟨r0, ⟨Low.refl _ _, fun k hk => hk, fun a u ha => ⟨by have := hst.inp_at ha; have := cell_lt this; omega, hst.inp_at ha⟩, h1.len, fun k l o q1 q2 => ?_, fun k k' l l' o o' q1 q2 q3 q4 hne hown _ => ?_, fun _ => [], fun k l o q1 q2 => ?_, by simp, by simp, by simp⟩, fun h3 h4 => LeL.is h2 h3 h4⟩
  · obtain ⟨a, b, c, d, e⟩ := h1.obj k l o q1 q2
    exact ⟨a, b, fun h => (by rw [hro o (List.mem_of_getElem? q2)] at h; cases h), d, e⟩
  · rw [hro o (List.mem_of_getElem? q3)] at hown; cases hown
  · cases ha : o.isA with
    | false => exact HidIs.not ha
    | true =>
      have := (h1.obj k l o q1 q2).isA_own ha
      rw [hro o (List.mem_of_getElem? q2)] at this; cases this
/-- A function that gives a plain value. -/
theorem Contract.plain [Inp] (hF : FnX P f eff N x rs) (hG : GOk P G) (tr : Trans)
    (body : ∀ args m k, tr args m k → ∃ (g : List Nat) (m0 : Mem) (args0 : List SV), g.Nodup ∧ FitM g m g m0 ∧ (∀ o ∈ m0, o.own = false) ∧ LeL g args0 args ∧ args0.length ≤ N ∧
      evX P N eff G x (slots (argSlots 0 args0)) m0 (fun ex e m' => EndsX ex ∧ evR rs e m' fun s => s.plain = true ∧ k s m)) : Contract P f true tr := by
  refine ⟨hF.enter, fun args m k base w0 W r vs ht hst ha => ?_⟩
  obtain ⟨g, m0, args0, hn, hm, hro, hle, hlen, hev⟩ := body args m k ht
  obtain ⟨r0, hst0, hargs⟩ := view hn hm hro hst
  refine (hF.calls hG hst0 (hargs hle ha) hlen (R := fun s _ => s.plain = true ∧ k s m) hev).mono ?_
  rintro e W1 ⟨s, m', r', u, ⟨hp, hk⟩, rfl, hst1, hs, _⟩
  have hb : Below W.heap.size W W1 := hst1.low.below
  exact ⟨s, m, [], u, hk, rfl, by simpa using hst.below hb, plain_is hp hs, fun _ => Same.below hst hb⟩
mutual
theorem Le_plain (g : List Nat) : ∀ {s : SV}, s.plain = true → Le g s s
  | .v x, h => by simp only [Le]
  | .any, h => by simp only [Le]
  | .emp, h => by simp only [Le]
  | .zro, h => by simp only [Le]
  | .mp _, h => by simp [SV.plain] at h
  | .ptr _ _, h => by simp [SV.plain] at h
  | .row _ _ _ _, h => by simp [SV.plain] at h
  | .agg cs, h => by simp only [SV.plain] at h; simp only [Le]; exact LeL_plain g h
  | .tup cs, h => by simp only [SV.plain] at h; simp only [Le]; exact LeL_plain g h
  | .fn f cs, h => by simp only [SV.plain] at h; simp only [Le]; exact ⟨trivial, LeL_plain g h⟩
  | .bnd f cs, h => by simp only [SV.plain] at h; simp only [Le]; exact ⟨trivial, LeL_plain g h⟩
theorem LeL_plain (g : List Nat) : ∀ {s : List SV}, plainL s = true → LeL g s s
  | [], h => by simp only [LeL]
  | c :: cs, h => by simp only [plainL, Bool.and_eq_true] at h; simp only [LeL]; exact ⟨Le_plain g h.1, LeL_plain g h.2⟩
end
theorem plainL_v : ∀ l : List Value, plainL (l.map SV.v) = true
  | [] => rfl
  | x :: l => by simp only [List.map_cons, plainL, SV.plain, Bool.true_and]; exact plainL_v l
/-- Plain arguments, a plain value. -/
theorem Contract.plainArgs [Inp] (hF : FnX P f eff N x rs) (hG : GOk P G) (tr : Trans)
    (body : ∀ args m k, tr args m k → plainL args = true ∧ args.length ≤ N ∧ evX P N eff G x (slots (argSlots 0 args)) [] (fun ex e m' => EndsX ex ∧ evR rs e m' fun s => s.plain = true ∧ k s m)) : Contract P f true tr :=
  .plain hF hG tr fun args m k h => by
    obtain ⟨h1, h2, h3⟩ := body args m k h
    exact ⟨[], [], args, by simp, trivial, by simp, LeL_plain _ h1, h2, h3⟩
theorem Contract.of_calls [Inp] (hE : Enterable P f) (tr : Trans) (h : ∀ args m k, tr args m k → ∃ s, k s m ∧ s.plain = true ∧ ∀ r vs, SV.IsL r args vs → ∃ u, s.Is r u ∧ ∀ w, Calls P f vs.toArray w fun e w' => e = .returned u ∧ Below w.heap.size w w') : Contract P f true tr := by
  refine ⟨hE, fun args m k base w0 W r vs ht hst ha => ?_⟩
  obtain ⟨s, hk, hp, hc⟩ := h args m k ht
  obtain ⟨u, hu, hcall⟩ := hc r vs ha
  refine (hcall W).mono ?_
  rintro e W1 ⟨rfl, hb⟩
  exact ⟨s, m, [], u, hk, rfl, by simpa using hst.below hb, by simpa using hu, fun _ => Same.below hst hb⟩
/-- The caller's memory with the callee's new objects behind it. -/
theorem St.join [Inp] {base : Nat → Prop} {w0 W W1 : World} {r r2 : List Loc} {m m2 : Mem} (hst : St base w0 r m W) (h2 : St (fun k => W.heap.size ≤ k) W r2 m2 W1) (hown : ∀ o ∈ m2, o.own = true) : St base w0 (r ++ r2) (m ++ m2.map (SObj.up r.length)) W1 := by
  have hb : Below W.heap.size W W1 := h2.low.below
  have h1 := hst.below hb
  have split : ∀ (k : Nat) (l : Loc) (o : SObj), (r ++ r2)[k]? = some l → (m ++ m2.map (SObj.up r.length))[k]? = some o → (k < r.length ∧ r[k]? = some l ∧ m[k]? = some o) ∨ (r.length ≤ k ∧ r2[k - r.length]? = some l ∧ ∃ o2, m2[k - r.length]? = some o2 ∧ o = o2.up r.length) := by
    intro k l o hl ho
    rcases Nat.lt_or_ge k r.length with hk | hk
    · exact .inl ⟨hk, by rwa [List.getElem?_append_left hk] at hl, by rwa [List.getElem?_append_left (by rw [← hst.len]; exact hk)] at ho⟩
    · rw [List.getElem?_append_right hk] at hl
      rw [List.getElem?_append_right (by rw [← hst.len]; exact hk), ← hst.len, List.getElem?_map] at ho
      obtain ⟨o2, q1, q2⟩ := Option.map_eq_some_iff.1 ho
      exact .inr ⟨hk, hl, o2, q1, q2.symm⟩
  have new_ge : ∀ (k : Nat) (l : Loc) (o : SObj), r2[k]? = some l → m2[k]? = some o → W.heap.size ≤ l.blk := fun k l o q1 q2 => (h2.obj k l o q1 q2).own (hown o (List.mem_of_getElem? q2))
  obtain ⟨F, hF⟩ := hst.hid
  obtain ⟨F2, hF2⟩ := h2.hid
  refine ⟨h1.low, h1.from_, h1.inp, by simp [hst.len, h2.len], fun k l o q1 q2 => ?_, fun k k' l l' o o' q1 q2 q3 q4 hne ho hal => ?_, fun k => if k < r.length then F k else F2 (k - r.length), fun k l o q1 q2 => ?_, fun k b hb' => ?_, fun k b hb' k' l o q1 q2 hal => ?_, fun k k' b hb1 hb2 => ?_⟩
  · rcases split k l o q1 q2 with ⟨_, p1, p2⟩ | ⟨_, p1, o2, p2, rfl⟩
    · exact (h1.obj k l o p1 p2).grow r2
    · obtain ⟨g1, g5, g6, g7, g8⟩ := h2.obj _ l o2 p1 p2
      refine ⟨fun hm hal => ?_, by simp only [SObj.up, upL_len]; exact g5, fun h => hst.from_ _ (Nat.le_trans hst.low.size (g6 h)), g7, g8.up⟩
      obtain ⟨c, T, fr, g1, g2, g3, g4⟩ := g1 (by rw [isM_up] at hm; exact hm) (by
        rcases hal with h | h
        · exact .inl h
        · exact .inr fun e => h (by simp only [SObj.up, e, upL]))
      refine ⟨c, T, fr, g1, g2, ?_, g4⟩
      simp only [SObj.up, upL_len]
      exact upL_is g3
  · rcases split k l o q1 q3 with ⟨a1, p1, p2⟩ | ⟨a1, p1, o2, p2, rfl⟩ <;> rcases split k' l' o' q2 q4 with ⟨b1, p3, p4⟩ | ⟨b1, p3, o3, p4, rfl⟩
    · exact h1.sep k k' l l' o o' p1 p3 p2 p4 hne ho hal
    · have := new_ge _ l' o3 p3 p4
      have := hst.locs l (List.mem_of_getElem? p1)
      omega
    · have := new_ge _ l o2 p1 p2
      have := hst.locs l' (List.mem_of_getElem? p3)
      omega
    · refine h2.sep _ _ l l' o2 o3 p1 p3 p2 p4 (by omega) ho ?_
      rcases hal with h | h
      · exact .inl h
      · refine .inr fun e => h ?_
        simp only [SObj.up, e, upL]
  · rcases split k l o q1 q2 with ⟨a1, p1, p2⟩ | ⟨a1, p1, o2, p2, rfl⟩
    · simp only [if_pos a1]
      refine HidIs.grow ?_ r2
      cases ha : o.isA with
      | false => exact HidIs.not ha
      | true =>
        refine (hF.is k l o p1 p2).same hb.size fun b hb' => ?_
        rcases List.mem_cons.1 hb' with rfl | hb'
        · exact hb.block _ (hst.locs l (List.mem_of_getElem? p1))
        · exact hb.block _ (hF.base k b hb').2
    · simp only [if_neg (show ¬ k < r.length by omega)]
      exact (hF2.is _ l o2 p1 p2).up
  · split at hb'
    · exact ⟨(hF.base k b hb').1, Nat.lt_of_lt_of_le (hF.base k b hb').2 hb.size⟩
    · have := hF2.base _ b hb'
      exact ⟨hst.from_ _ (Nat.le_trans hst.low.size this.1), this.2⟩
  · rcases split k' l o q1 q2 with ⟨a1, p1, p2⟩ | ⟨a1, p1, o2, p2, rfl⟩
    · split at hb'
      · exact hF.far k b hb' k' l o p1 p2 hal
      · have := (hF2.base _ b hb').1
        have := hst.locs l (List.mem_of_getElem? p1)
        omega
    · split at hb'
      · have := (hF.base _ b hb').2
        have := new_ge _ l o2 p1 p2
        omega
      · refine hF2.far _ b hb' _ l o2 p1 p2 ?_
        rcases hal with h | h
        · exact .inl h
        · refine .inr fun e => h ?_
          simp only [SObj.up, e, upL]
  · split at hb1
    · split at hb2
      · exact hF.apart k k' b hb1 hb2
      · have := (hF.base _ b hb1).2
        have := (hF2.base _ b hb2).1
        omega
    · split at hb2
      · have := (hF.base _ b hb2).2
        have := (hF2.base _ b hb1).1
        omega
      · have := hF2.apart _ _ b hb1 hb2
        omega
/-- A function that gives a value with new objects. -/
theorem Contract.fresh [Inp] (hF : FnX P f eff N x rs) (hG : GOk P G) (tr : Trans)
    (body : ∀ args m k, tr args m k → ∃ (g : List Nat) (m0 : Mem) (args0 : List SV), g.Nodup ∧ FitM g m g m0 ∧ (∀ o ∈ m0, o.own = false) ∧ LeL g args0 args ∧ args0.length ≤ N ∧
      evX P N eff G x (slots (argSlots 0 args0)) m0 (fun ex e m' => EndsX ex ∧ evR rs e m' fun s => ∃ (g2 : List Nat) (s2 : SV) (m2 : Mem), g2.Nodup ∧ FitM g2 m' g2 m2 ∧ (∀ o ∈ m2, o.own = true) ∧ Le g2 s2 s ∧ k (s2.up m.length) (m ++ m2.map (SObj.up m.length)))) : Contract P f true tr := by
  refine ⟨hF.enter, fun args m k base w0 W r vs ht hst ha => ?_⟩
  obtain ⟨g, m0, args0, hn, hm, hro, hle, hlen, hev⟩ := body args m k ht
  obtain ⟨r0, hst0, hargs⟩ := view hn hm hro hst
  refine (hF.calls hG hst0 (hargs hle ha) hlen (R := fun s m' => ∃ (g2 : List Nat) (s2 : SV) (m2 : Mem), g2.Nodup ∧ FitM g2 m' g2 m2 ∧ (∀ o ∈ m2, o.own = true) ∧ Le g2 s2 s ∧ k (s2.up m.length) (m ++ m2.map (SObj.up m.length))) hev).mono ?_
  rintro e W1 ⟨s, m', r', u, ⟨g2, s2, m2, hn2, hm2, hown, hle2, hk⟩, rfl, hst1, hs, _⟩
  have hb : Below W.heap.size W W1 := hst1.low.below
  obtain ⟨r2, hst2, hr2, _⟩ := fit_sound (N := 0) (e := fun _ => .any) (l := []) (ts := #[]) (NdL_of hn2) hm2 hst1
  have hj := hst.join hst2 hown
  rw [← hst.len] at hk
  exact ⟨_, _, r2, u, hk, rfl, hj, up_is (Le.is hr2 hle2 hs), fun _ => Same.below hst hb⟩
end
end Go.Proofs.Ytibefgdjijmncaa.Sz
