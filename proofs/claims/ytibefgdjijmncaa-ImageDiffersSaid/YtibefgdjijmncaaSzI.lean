/- Symbolic walks, part I: what a function does. No condition. -/
import Derived.Test.YtibefgdjijmncaaSzH
namespace Go.Proofs.Ytibefgdjijmncaa.Sz
open Go.RowKit
set_option linter.unusedVariables false
set_option linter.unusedSimpArgs false
mutual
/-- Nothing of it lies in memory. -/
def SV.plain : SV → Bool
  | .v _ | .any | .emp | .zro => true
  | .ptr .. | .row .. | .mp .. => false
  | .agg cs | .tup cs | .fn _ cs | .bnd _ cs => plainL cs
def plainL : List SV → Bool
  | [] => true
  | c :: cs => c.plain && plainL cs
end
mutual
theorem plain_is {r r' : List Loc} : ∀ {s : SV} {u : Value}, s.plain = true → s.Is r u → s.Is r' u
  | .v x, u, h, hs => by simpa only [SV.Is] using hs
  | .any, u, h, hs => by simp only [SV.Is]
  | .emp, u, h, hs => by simpa only [SV.Is] using hs
  | .zro, u, h, hs => by simpa only [SV.Is] using hs
  | .mp _, u, h, hs => by simp [SV.plain] at h
  | .ptr _ _, u, h, hs => by simp [SV.plain] at h
  | .row _ _ _ _, u, h, hs => by simp [SV.plain] at h
  | .agg cs, u, h, hs => by
    simp only [SV.plain] at h; simp only [SV.Is] at hs ⊢
    obtain ⟨us, h1, h2⟩ := hs
    exact ⟨us, h1, plainL_is h h2⟩
  | .tup cs, u, h, hs => by
    simp only [SV.plain] at h; simp only [SV.Is] at hs ⊢
    obtain ⟨us, h1, h2⟩ := hs
    exact ⟨us, h1, plainL_is h h2⟩
  | .fn f cs, u, h, hs => by
    simp only [SV.plain] at h; simp only [SV.Is] at hs ⊢
    obtain ⟨us, h1, h2⟩ := hs
    exact ⟨us, h1, plainL_is h h2⟩
  | .bnd f cs, u, h, hs => by
    simp only [SV.plain] at h; simp only [SV.Is] at hs ⊢
    obtain ⟨us, h1, h2⟩ := hs
    exact ⟨us, h1, plainL_is h h2⟩
theorem plainL_is {r r' : List Loc} : ∀ {s : List SV} {u : List Value}, plainL s = true → SV.IsL r s u → SV.IsL r' s u
  | [], u, h, hs => by simpa only [SV.IsL] using hs
  | c :: cs, u, h, hs => by
    simp only [plainL, Bool.and_eq_true] at h; simp only [SV.IsL] at hs ⊢
    obtain ⟨x, y, h1, h2, h3⟩ := hs
    exact ⟨x, y, h1, plain_is h.1 h2, plainL_is h.2 h3⟩
end
mutual
/-- All numbers of objects moved up. -/
def SV.up (d : Nat) : SV → SV
  | .v x => .v x
  | .any => .any
  | .emp => .emp
  | .zro => .zro
  | .mp k => .mp (d + k)
  | .ptr k o => .ptr (d + k) o
  | .row k o n sz => .row (d + k) o n sz
  | .agg cs => .agg (upL d cs)
  | .tup cs => .tup (upL d cs)
  | .fn f cs => .fn f (upL d cs)
  | .bnd f cs => .bnd f (upL d cs)
def upL (d : Nat) : List SV → List SV
  | [] => []
  | c :: cs => c.up d :: upL d cs
end
mutual
theorem up_is {r t : List Loc} : ∀ {s : SV} {u : Value}, s.Is t u → (s.up r.length).Is (r ++ t) u
  | .v x, u, hs => by simpa only [SV.up, SV.Is] using hs
  | .any, u, hs => by simp only [SV.up, SV.Is]
  | .emp, u, hs => by simpa only [SV.up, SV.Is] using hs
  | .zro, u, hs => by simpa only [SV.up, SV.Is] using hs
  | .mp k, u, hs => by
    simp only [SV.up, SV.Is] at hs ⊢
    obtain ⟨l, h1, h2⟩ := hs
    exact ⟨l, by rw [List.getElem?_append_right (by omega), Nat.add_sub_cancel_left]; exact h1, h2⟩
  | .ptr k o, u, hs => by
    simp only [SV.up, SV.Is] at hs ⊢
    obtain ⟨l, h1, h2⟩ := hs
    exact ⟨l, by rw [List.getElem?_append_right (by omega), Nat.add_sub_cancel_left]; exact h1, h2⟩
  | .row k o n sz, u, hs => by
    simp only [SV.up, SV.Is] at hs ⊢
    obtain ⟨l, c, h1, h2⟩ := hs
    exact ⟨l, c, by rw [List.getElem?_append_right (by omega), Nat.add_sub_cancel_left]; exact h1, h2⟩
  | .agg cs, u, hs => by
    simp only [SV.up, SV.Is] at hs ⊢
    obtain ⟨us, h1, h2⟩ := hs
    exact ⟨us, h1, upL_is h2⟩
  | .tup cs, u, hs => by
    simp only [SV.up, SV.Is] at hs ⊢
    obtain ⟨us, h1, h2⟩ := hs
    exact ⟨us, h1, upL_is h2⟩
  | .fn f cs, u, hs => by
    simp only [SV.up, SV.Is] at hs ⊢
    obtain ⟨us, h1, h2⟩ := hs
    exact ⟨us, h1, upL_is h2⟩
  | .bnd f cs, u, hs => by
    simp only [SV.up, SV.Is] at hs ⊢
    obtain ⟨us, h1, h2⟩ := hs
    exact ⟨us, h1, upL_is h2⟩
theorem upL_is {r t : List Loc} : ∀ {s : List SV} {u : List Value}, SV.IsL t s u → SV.IsL (r ++ t) (upL r.length s) u
  | [], u, hs => by simpa only [upL, SV.IsL] using hs
  | c :: cs, u, hs => by
    simp only [upL, SV.IsL] at hs ⊢
    obtain ⟨x, y, h1, h2, h3⟩ := hs
    exact ⟨x, y, h1, up_is h2, upL_is h3⟩
end
theorem upL_len (d : Nat) : ∀ s : List SV, (upL d s).length = s.length
  | [] => rfl
  | c :: cs => by simp [upL, upL_len d cs]
theorem upL_v (d : Nat) : ∀ l : List Value, upL d (l.map SV.v) = l.map SV.v
  | [] => rfl
  | x :: l => by simp only [List.map_cons, upL, SV.up, upL_v d l]
@[reducible] def Ext.up (d : Nat) (x : Ext) : Ext := match x.v with
  | .no => noExt
  | .map kt es => ⟨.map kt (es.map fun p => (p.1, p.2.up d))⟩
  | .abs A refs => ⟨.abs A (refs.map (d + ·))⟩
@[simp] theorem extUp_no {d : Nat} : Ext.up d noExt = noExt := rfl
def SObj.up (d : Nat) (o : SObj) : SObj := @SObj.mk o.own (upL d o.cells) (o.x.up d)
theorem mapsUp_is {r t : List Loc} {d : TypeDesc} : ∀ {n : Nat} {ps : List (Value × SV)} {es : List MapEntry}, MapIs t d n ps es → MapIs (r ++ t) d n (ps.map fun p => (p.1, p.2.up r.length)) es
  | n, [], es, h => h
  | n, p :: ps, es, h => by
    obtain ⟨e, t', rfl, h1, h2, h3, h4, h5⟩ := h
    exact ⟨e, _, rfl, h1, up_is h2, h3, h4, mapsUp_is h5⟩
theorem mapM_up {r t : List Loc} : ∀ {refs : List Nat} {ls : List Loc}, refs.mapM (t[·]?) = some ls → (refs.map (r.length + ·)).mapM ((r ++ t)[·]?) = some ls
  | [], ls, h => h
  | k :: ks, ls, h => by
    rw [List.mapM_cons] at h
    rw [List.map_cons, List.mapM_cons]
    obtain ⟨a, ha, h⟩ := Option.bind_eq_some_iff.1 h
    obtain ⟨b, hb, h⟩ := Option.bind_eq_some_iff.1 h
    have ha' : (r ++ t)[r.length + k]? = some a := by rw [List.getElem?_append_right (by omega), Nat.add_sub_cancel_left]; exact ha
    simp only [ha', mapM_up hb]
    exact h
theorem ExtIs.up {r t : List Loc} {w : World} {l : Loc} {o : SObj} (h : ExtIs t w l o) : ExtIs (r ++ t) w l (o.up r.length) := by
  obtain ⟨own, cells⟩ := o
  rename_i x
  obtain ⟨x⟩ := x
  cases x with
  | no => trivial
  | map kt ps =>
    obtain ⟨⟨h1, h2, h3⟩, es, h4, h5⟩ := (show (_ ∧ _ ∧ _) ∧ ∃ es, _ ∧ _ from h)
    simp only at h1
    subst h1
    exact (show (_ ∧ _ ∧ _) ∧ ∃ es, _ ∧ _ from ⟨⟨rfl, h2, h3⟩, es, by rw [List.length_map]; exact h4, mapsUp_is h5⟩)
  | abs A refs => exact h
theorem HidIs.up {r t : List Loc} {w : World} {l : Loc} {fp : List Nat} {o : SObj} (h : HidIs t w l fp o) : HidIs (r ++ t) w l fp (o.up r.length) := by
  obtain ⟨own, cells⟩ := o
  rename_i x
  obtain ⟨x⟩ := x
  cases x with
  | no => trivial
  | map kt ps => trivial
  | abs A refs =>
    obtain ⟨ls, h2, h3⟩ := (show ∃ ls, _ ∧ _ from h)
    exact (show ∃ ls, _ ∧ _ from ⟨ls, mapM_up h2, h3⟩)
theorem isM_up {d : Nat} {o : SObj} : (o.up d).isM = o.isM := by
  obtain ⟨own, cells⟩ := o
  rename_i x
  obtain ⟨x⟩ := x
  cases x <;> rfl
/-! ### Results -/
inductive XR where
  | tmp (t : Nat)
  | cell (t : Nat) (sz : Option Nat)
def compR (P : Program) : List ResultVar → Option (List XR)
  | [] => some []
  | .tmp t :: l => (compR P l).map (.tmp t :: ·)
  | .cell a t :: l => (szOf P t).bind fun z => (compR P l).map (.cell a z :: ·)
def evR1 (x : XR) (e : Env) (m : Mem) (K : SV → Prop) : Prop :=
  match x with
  | .tmp t => K (e t)
  | .cell t sz => match e t with | .ptr k o => (match m[k]? with | some ob => evPart ob.cells o sz K | none => False) | _ => False
def evRs : List XR → Env → Mem → (List SV → Prop) → Prop
  | [], _, _, K => K []
  | x :: l, e, m, K => evR1 x e m fun s => evRs l e m fun ss => K (s :: ss)
def pack : List SV → SV
  | [s] => s
  | ss => .tup ss
def evR (l : List XR) (e : Env) (m : Mem) (K : SV → Prop) : Prop := evRs l e m fun ss => K (pack ss)
section
variable {P : Program} {N : Nat} {eff : List FuncId} {G : List CEntry} {base : Nat → Prop} {w0 W : World} {r : List Loc} {m : Mem} {e : Env} {ts : Array Value}
def runR (ts : Array Value) : ResultVar → Sem Value
  | .tmp t => pure (ts.getD t undef)
  | .cell a t => do loadVar t (← asAddr (ts.getD a undef))
theorem results_eq (fn : Func) (ts : Array Value) : results fn ts = (do let vs ← fn.results.mapM (runR ts); pure (if h : vs.size = 1 then vs[0] else .tuple vs)) := by
  unfold results
  congr 1
theorem evR1_sound [Inp] {x : XR} {rv : ResultVar} {l : List XR} {rest : List ResultVar} {K : SV → Prop} (hc : compR P (rv :: rest) = some (x :: l)) (h : evR1 x e m K) (hst : St base w0 r m W) (he : EnvIs N r e ts) :
    compR P rest = some l ∧ ∃ s u, K s ∧ s.Is r u ∧ (runR ts rv).run P W = .ok u W := by
  cases rv with
  | tmp t =>
    simp only [compR] at hc
    obtain ⟨l', hl, hc⟩ := Option.map_eq_some_iff.1 hc
    injection hc with h1 h2; subst h1; subst h2
    exact ⟨hl, _, _, h, he.is t, rfl⟩
  | cell a t =>
    simp only [compR] at hc
    obtain ⟨z, hz, hc⟩ := Option.bind_eq_some_iff.1 hc
    obtain ⟨l', hl, hc⟩ := Option.map_eq_some_iff.1 hc
    injection hc with h1 h2; subst h1; subst h2
    refine ⟨hl, ?_⟩
    simp only [evR1] at h
    split at h
    · rename_i k o hk
      have h1 := he.is a
      rw [hk] at h1; simp only [SV.Is] at h1
      obtain ⟨lo, hlo, hu⟩ := h1
      split at h
      · rename_i ob hob
        obtain ⟨s, u, h2, h3, h4⟩ := load_sound (k0 := k) (P := P) hz h hlo (hst.obj k lo ob hlo hob)
        refine ⟨s, u, h2, h3, ?_⟩
        have := h4 W rfl
        simp only [Instr.loadAt, Instr.sureAddr, Sem.run_bind, Sem.run_pure, Result.andThen_ok] at this
        simp only [runR, hu, asAddr, Sem.run_bind, Sem.run_pure, Result.andThen_ok]
        exact this
      · exact h.elim
    · exact h.elim
theorem evRs_sound [Inp] : ∀ {rvs : List ResultVar} {l : List XR} {K : List SV → Prop}, compR P rvs = some l → evRs l e m K → St base w0 r m W → EnvIs N r e ts → ∃ ss us, K ss ∧ SV.IsL r ss us ∧ (rvs.mapM (runR ts)).run P W = .ok us W
  | [], l, K, hc, h, hst, he => by
    simp only [compR] at hc
    injection hc with hc; subst hc
    exact ⟨[], [], h, by simp [SV.IsL], by simp⟩
  | rv :: rest, [], K, hc, h, hst, he => by
    cases rv
    · simp [compR] at hc
    · simp only [compR] at hc
      obtain ⟨z, hz, hc⟩ := Option.bind_eq_some_iff.1 hc
      obtain ⟨l', hl, hc⟩ := Option.map_eq_some_iff.1 hc
      cases hc
  | rv :: rest, x :: l, K, hc, h, hst, he => by
    simp only [evRs] at h
    obtain ⟨hl, s, u, h1, h2, h3⟩ := evR1_sound hc h hst he
    obtain ⟨ss, us, h4, h5, h6⟩ := evRs_sound hl h1 hst he
    refine ⟨s :: ss, u :: us, h4, by simp only [SV.IsL]; exact ⟨u, us, rfl, h2, h5⟩, ?_⟩
    rw [List.mapM_cons]
    simp only [Sem.run_bind, h3, Result.andThen_ok, h6, Sem.run_pure]
theorem evR_sound [Inp] {fn : Func} {l : List XR} {K : SV → Prop} (hc : compR P fn.results.toList = some l) (h : evR l e m K) (hst : St base w0 r m W) (he : EnvIs N r e ts) : ∃ s u, K s ∧ s.Is r u ∧ (results fn ts).run P W = .ok u W := by
  obtain ⟨ss, us, h1, h2, h3⟩ := evRs_sound hc h hst he
  have hrun : (fn.results.mapM (runR ts)).run P W = .ok us.toArray W := by
    rw [Array.mapM_eq_mapM_toList]
    simp [h3]
  have hlen := IsL_len h2
  refine ⟨pack ss, if h : us.toArray.size = 1 then us.toArray[0] else .tuple us.toArray, h1, ?_, by rw [results_eq]; simp only [Sem.run_bind, hrun, Result.andThen_ok, Sem.run_pure]⟩
  unfold pack
  split
  · rename_i s
    simp only [SV.IsL] at h2
    obtain ⟨x, y, rfl, h4, rfl⟩ := h2
    simpa using h4
  · rename_i hne
    have : us.length ≠ 1 := by
      intro h
      rw [hlen] at h
      match ss, h with
      | [s], _ => exact hne s rfl
    rw [dif_neg (by simpa using this)]
    simp only [SV.Is]
    exact ⟨us, rfl, h2⟩
end
end Go.Proofs.Ytibefgdjijmncaa.Sz
