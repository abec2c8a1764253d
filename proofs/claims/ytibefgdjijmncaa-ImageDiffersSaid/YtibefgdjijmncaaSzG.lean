/- Symbolic walks, part G: code, loops, functions. No condition. -/
import Derived.Test.YtibefgdjijmncaaSzF
namespace Go.Proofs.Ytibefgdjijmncaa.Sz
open Go.RowKit
set_option linter.unusedVariables false
set_option linter.unusedSimpArgs false
inductive XC where
  | skip
  | tree (t : XT)
  | seq (a b : XC)
  | cond (c : XO) (a b : XC)
  | block (id : Nat) (a : XC)
  | loop (a : XC)
  | exit (id : Nat)
  | ret
/-- Does a region change memory that its loads may read? (eff: functions that do.) -/
def loud (P : Program) (eff : List FuncId) (o : Oper) : Bool :=
  match compB P o.op with
  | some (.store ..) | some (.app ..) | some (.mapUpd ..) | some (.mapEnt ..) | some (.entSt ..) => true
  | some (.call (.cst (.fn f _)) _) => eff.contains f
  | some (.call _ _) => true
  | _ => false
def compC (P : Program) (N : Nat) (eff : List FuncId) : Code → Option XC
  | .skip => some .skip
  | .region _ ops false => (lin P N ops ops.toList).map .tree
  | .region _ ops true => if P.follows .mixedOrders = true ∧ Region.noSelect ops = true then (if ops.any (loud P eff) = true then expl2 P N (fun o => !loud P eff o) ops ops.size (Array.replicate ops.size false) else expl P N true ops ops.size (Array.replicate ops.size false)).map .tree else none
  | .seq a b => (compC P N eff a).bind fun x => (compC P N eff b).map (.seq x)
  | .cond c a b => (compC P N eff a).bind fun x => (compC P N eff b).map (.cond (XO.of c) x)
  | .block id a => (compC P N eff a).map (.block id)
  | .loop a => (compC P N eff a).map .loop
  | .exit id => some (.exit id)
  | .ret => some .ret
  | _ => none
abbrev Post := Exit → Env → Mem → Prop
def goes : Exit → Prop
  | .normal | .exit _ | .ret => True
  | _ => False
/-- What a post says of the machine. -/
def PostX [Inp] (N : Nat) (base : Nat → Prop) (w0 : World) (df : List Deferred) (r0 : List Loc) (Q : Post) : Exit → Act → World → Prop := fun ex a W =>
  goes ex ∧ ∃ e m r, Q ex e m ∧ St base w0 r m W ∧ EnvIs N r e a.tmps ∧ a.defers = df ∧ Kp r0 r
/-- From whatever world that has this memory, with these temporaries, the code comes to the post. -/
def TX [Inp] (P : Program) (N : Nat) (eff : List FuncId) (x : XC) (e : Env) (m : Mem) (Q : Post) : Prop :=
  ∀ c, compC P N eff c = some x → ∀ (base : Nat → Prop) (w0 W : World) (r : List Loc) (a : Act), St base w0 r m W → EnvIs N r e a.tmps → c.wp P (PostX N base w0 a.defers r Q) a W
def thenQ (K : Env → Mem → Prop) (Q : Post) : Post
  | .normal, e, m => K e m
  | ex, e, m => Q ex e m
def blockQ (id : Nat) (Q : Post) : Post
  | .exit i, e, m => if i = id then Q .normal e m else Q (.exit i) e m
  | ex, e, m => Q ex e m
def upd (e : Env) : XO → Bool → Env
  | .tmp t, b => put e t (.v (.bool b))
  | _, _ => e
theorem upd_same {e : Env} {c : XO} {b : Bool} (h : c.get e = .v (.bool b)) : upd e c b = e := by
  cases c with
  | tmp t =>
    funext y
    simp only [upd, put]
    split
    · rename_i hy; subst hy; exact h.symm
    · rfl
  | cst s => rfl
def evX [Inp] (P : Program) (N : Nat) (eff : List FuncId) (G : List CEntry) : XC → Env → Mem → Post → Prop
  | .skip, e, m, Q => Q .normal e m
  | .tree t, e, m, Q => evT G t e m (fun e m => Q .normal e m)
  | .seq a b, e, m, Q => evX P N eff G a e m (thenQ (fun e m => evX P N eff G b e m Q) Q)
  | .cond c a b, e, m, Q => match c.get e with | .v (.bool t) => if t = true then evX P N eff G a (upd e c true) m Q else evX P N eff G b (upd e c false) m Q | _ => False
  | .block id a, e, m, Q => evX P N eff G a e m (blockQ id Q)
  | .loop a, e, m, Q => TX P N eff (.loop a) e m Q
  | .exit id, e, m, Q => Q (.exit id) e m
  | .ret, e, m, Q => Q .ret e m
section
variable {P : Program} {N : Nat} {eff : List FuncId} {G : List CEntry}
theorem TX.mono [Inp] {x : XC} {e : Env} {m : Mem} {Q Q' : Post} (h : TX P N eff x e m Q) (hq : ∀ ex e m, Q ex e m → Q' ex e m) : TX P N eff x e m Q' :=
  fun c hc base w0 W r a hst he => wp_mono (h c hc base w0 W r a hst he) fun ex a' W' ⟨h0, e', m', r', h1, h2⟩ => ⟨h0, e', m', r', hq _ _ _ h1, h2⟩
theorem evX_sound [Inp] (hG : GOk P G) : ∀ (x : XC) {e : Env} {m : Mem} {Q : Post}, evX P N eff G x e m Q → TX P N eff x e m Q := by
  intro x
  induction x with
  | skip =>
    intro e m Q h c hc base w0 W r a hst he
    unfold compC at hc
    split at hc
    case h_1 => exact wp_skip ⟨trivial, e, m, r, h, hst, he, rfl, Kp.refl _⟩
    all_goals first | (cases hc; done) | (obtain ⟨x1, hx1, hc⟩ := Option.bind_eq_some_iff.1 hc; obtain ⟨x2, hx2, hc⟩ := Option.map_eq_some_iff.1 hc; cases hc; done) | (obtain ⟨x1, hx1, hc⟩ := Option.map_eq_some_iff.1 hc; cases hc; done) | (split at hc <;> first | (cases hc; done) | (obtain ⟨x1, hx1, hc⟩ := Option.map_eq_some_iff.1 hc; cases hc; done))
  | exit id =>
    intro e m Q h c hc base w0 W r a hst he
    unfold compC at hc
    split at hc
    case h_8 i => injection hc with hc; injection hc with hc; subst hc; exact wp_exit ⟨trivial, e, m, r, h, hst, he, rfl, Kp.refl _⟩
    all_goals first | (cases hc; done) | (obtain ⟨x1, hx1, hc⟩ := Option.bind_eq_some_iff.1 hc; obtain ⟨x2, hx2, hc⟩ := Option.map_eq_some_iff.1 hc; cases hc; done) | (obtain ⟨x1, hx1, hc⟩ := Option.map_eq_some_iff.1 hc; cases hc; done) | (split at hc <;> first | (cases hc; done) | (obtain ⟨x1, hx1, hc⟩ := Option.map_eq_some_iff.1 hc; cases hc; done))
  | ret =>
    intro e m Q h c hc base w0 W r a hst he
    unfold compC at hc
    split at hc
    case h_9 => exact wp_ret ⟨trivial, e, m, r, h, hst, he, rfl, Kp.refl _⟩
    all_goals first | (cases hc; done) | (obtain ⟨x1, hx1, hc⟩ := Option.bind_eq_some_iff.1 hc; obtain ⟨x2, hx2, hc⟩ := Option.map_eq_some_iff.1 hc; cases hc; done) | (obtain ⟨x1, hx1, hc⟩ := Option.map_eq_some_iff.1 hc; cases hc; done) | (split at hc <;> first | (cases hc; done) | (obtain ⟨x1, hx1, hc⟩ := Option.map_eq_some_iff.1 hc; cases hc; done))
  | tree t =>
    intro e m Q h c hc base w0 W r a hst he
    simp only [evX] at h
    unfold compC at hc
    split at hc
    case h_2 id ops =>
      · obtain ⟨t', ht, hc⟩ := Option.map_eq_some_iff.1 hc
        injection hc with hc; subst hc
        refine wp_region ?_
        rw [List.range_eq_range', ← Array.length_toList]
        exact lin_sound hG ops.toList 0 (fun j o hj => by simpa using hj) ht h hst he (fun e' m' r' a' W1 h1 h2 h3 h4 h5 => ⟨trivial, e', m', r', h1, h2, h3, h4, h5⟩)
    case h_3 id ops =>
      · split at hc
        · rename_i hcond
          obtain ⟨t', ht, hc⟩ := Option.map_eq_some_iff.1 hc
          injection hc with hc; subst hc
          split at ht
          · refine wp_region_S (st := stI (fun o => !loud P eff o) ops) (R := Same []) hcond.1 ?_
            exact expl2_sound hG _ hcond.2 (fun c a w hh => hh.1) _ ht h hst.drew he (fun e' m' r' a' W1 h1 h2 h3 h4 h5 => ⟨trivial, e', m', r', h1, h2, h3, h4, h5⟩)
          · refine wp_region_held (S := fun W' => true = true → Same r W.drew W') hcond.1 ?_
            exact expl_sound hG _ hcond.2 (fun c a w hh => hh.1) _ ht h hst.drew he (fun W' hW => hW) (fun e' m' r' a' W1 h1 h2 h3 h4 h5 => ⟨trivial, e', m', r', h1, h2, h3, h4, h5⟩)
        · cases hc
    all_goals first | (cases hc; done) | (obtain ⟨x1, hx1, hc⟩ := Option.bind_eq_some_iff.1 hc; obtain ⟨x2, hx2, hc⟩ := Option.map_eq_some_iff.1 hc; cases hc; done) | (obtain ⟨x1, hx1, hc⟩ := Option.map_eq_some_iff.1 hc; cases hc; done) | (split at hc <;> first | (cases hc; done) | (obtain ⟨x1, hx1, hc⟩ := Option.map_eq_some_iff.1 hc; cases hc; done))
  | seq x y ihx ihy =>
    intro e m Q h c hc base w0 W r a hst he
    simp only [evX] at h
    unfold compC at hc
    split at hc
    case h_4 c1 c2 =>
      obtain ⟨x1, hx1, hc⟩ := Option.bind_eq_some_iff.1 hc
      obtain ⟨x2, hx2, hc⟩ := Option.map_eq_some_iff.1 hc
      injection hc with h1 h2; subst h1; subst h2
      refine wp_seq (wp_mono (ihx h c1 hx1 base w0 W r a hst he) ?_)
      rintro ex a' W' ⟨hgo, e', m', r', hq, hst', he', hd, hkp⟩
      cases ex <;> simp only [Exit.then]
      case normal => simp only [thenQ] at hq; have := ihy hq c2 hx2 base w0 W' r' a' hst' he'; rw [hd] at this; exact wp_mono this fun ex2 a2 W2 ⟨q1, e2, m2, r2, q2, q3, q4, q5, q6⟩ => ⟨q1, e2, m2, r2, q2, q3, q4, q5, hkp.trans q6⟩
      case exit i => exact ⟨trivial, e', m', r', hq, hst', he', hd, hkp⟩
      case ret => exact ⟨trivial, e', m', r', hq, hst', he', hd, hkp⟩
      all_goals exact hgo.elim
    all_goals first | (cases hc; done) | (obtain ⟨x1, hx1, hc⟩ := Option.bind_eq_some_iff.1 hc; obtain ⟨x2, hx2, hc⟩ := Option.map_eq_some_iff.1 hc; cases hc; done) | (obtain ⟨x1, hx1, hc⟩ := Option.map_eq_some_iff.1 hc; cases hc; done) | (split at hc <;> first | (cases hc; done) | (obtain ⟨x1, hx1, hc⟩ := Option.map_eq_some_iff.1 hc; cases hc; done))
  | cond co x y ihx ihy =>
    intro e m Q h c hc base w0 W r a hst he
    simp only [evX] at h
    unfold compC at hc
    split at hc
    case h_5 c0 c1 c2 =>
      obtain ⟨x1, hx1, hc⟩ := Option.bind_eq_some_iff.1 hc
      obtain ⟨x2, hx2, hc⟩ := Option.map_eq_some_iff.1 hc
      injection hc with h1 h2 h3; subst h1; subst h2; subst h3
      have hv := he.get c0
      split at h
      · rename_i t ht
        rw [ht] at hv
        simp only [SV.Is] at hv
        refine wp_cond hv ?_
        cases t
        · rw [if_neg (by simp), upd_same ht] at h
          exact ihy h c2 hx2 base w0 W r a hst he
        · rw [if_pos rfl, upd_same ht] at h
          exact ihx h c1 hx1 base w0 W r a hst he
      · exact h.elim
    all_goals first | (cases hc; done) | (obtain ⟨x1, hx1, hc⟩ := Option.bind_eq_some_iff.1 hc; obtain ⟨x2, hx2, hc⟩ := Option.map_eq_some_iff.1 hc; cases hc; done) | (obtain ⟨x1, hx1, hc⟩ := Option.map_eq_some_iff.1 hc; cases hc; done) | (split at hc <;> first | (cases hc; done) | (obtain ⟨x1, hx1, hc⟩ := Option.map_eq_some_iff.1 hc; cases hc; done))
  | block id x ih =>
    intro e m Q h c hc base w0 W r a hst he
    simp only [evX] at h
    unfold compC at hc
    split at hc
    case h_6 i c1 =>
      obtain ⟨x1, hx1, hc⟩ := Option.map_eq_some_iff.1 hc
      injection hc with h1 h2; subst h1; subst h2
      refine wp_block (wp_mono (ih h c1 hx1 base w0 W r a hst he) ?_)
      rintro ex a' W' ⟨hgo, e', m', r', hq, hst', he', hd, hkp⟩
      cases ex <;> simp only [Exit.inBlock]
      case normal => exact ⟨trivial, e', m', r', hq, hst', he', hd, hkp⟩
      case exit j =>
        simp only [blockQ] at hq
        split
        · rename_i hj; rw [if_pos hj] at hq; exact ⟨trivial, e', m', r', hq, hst', he', hd, hkp⟩
        · rename_i hj; rw [if_neg hj] at hq; exact ⟨trivial, e', m', r', hq, hst', he', hd, hkp⟩
      case ret => exact ⟨trivial, e', m', r', hq, hst', he', hd, hkp⟩
      all_goals exact hgo.elim
    all_goals first | (cases hc; done) | (obtain ⟨x1, hx1, hc⟩ := Option.bind_eq_some_iff.1 hc; obtain ⟨x2, hx2, hc⟩ := Option.map_eq_some_iff.1 hc; cases hc; done) | (obtain ⟨x1, hx1, hc⟩ := Option.map_eq_some_iff.1 hc; cases hc; done) | (split at hc <;> first | (cases hc; done) | (obtain ⟨x1, hx1, hc⟩ := Option.map_eq_some_iff.1 hc; cases hc; done))
  | loop x ih =>
    intro e m Q h
    exact h
end
end Go.Proofs.Ytibefgdjijmncaa.Sz
