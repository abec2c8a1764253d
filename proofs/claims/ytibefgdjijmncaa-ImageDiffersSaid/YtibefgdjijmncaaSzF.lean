/- Symbolic walks, part F: regions, drawn or not. No condition. -/
import Derived.Test.YtibefgdjijmncaaSzE
import Derived.Deep.RegionHeld
namespace Go.Proofs.Ytibefgdjijmncaa.Sz
open Go.RowKit
set_option linter.unusedVariables false
set_option linter.unusedSimpArgs false
structure XI where
  dst : Option Nat
  grd : Option (Nat × Bool)
  op : XB
/-- A region: one behind the other; one that only looks, taken first; whichever comes up. -/
inductive XT where
  | done
  | seq (i : XI) (rest : XT)
  | take (i : XI) (rest : XT)
  | act (q : Bool) (alts : List (XI × XT))
  | alt (qs : List Bool) (alts : List (XI × XT))
def evI [Inp] (G : List CEntry) (i : XI) (e : Env) (m : Mem) (K : Env → Mem → Prop) : Prop :=
  match i.grd with
  | none => evB G i.op e m fun s m' => K (putO e i.dst s) m'
  | some (t, want) =>
    match e t with
    | .v (.bool b) => if b = want then evB G i.op (put e t (.v (.bool want))) m fun s m' => K (putO (put e t (.v (.bool want))) i.dst s) m' else K (putO (put e t (.v (.bool !want))) i.dst (.tup [])) m
    | .tup [] => K (putO e i.dst (.tup [])) m
    | _ => False
mutual
def evT [Inp] (G : List CEntry) : XT → Env → Mem → (Env → Mem → Prop) → Prop
  | .done, e, m, K => K e m
  | .seq i rest, e, m, K => evI G i e m fun e m => evT G rest e m K
  | .take i rest, e, m, K => evI G i e m fun e m => evT G rest e m K
  | .act q alts, e, m, K => evAlts G q alts e m K
  | .alt qs alts, e, m, K => evAlt2 G alts qs e m K
def evAlts [Inp] (G : List CEntry) (q : Bool) : List (XI × XT) → Env → Mem → (Env → Mem → Prop) → Prop
  | [], _, _, _ => True
  | (i, t) :: rest, e, m, K => ((q = true → quiet G e i.op = true) ∧ evI G i e m fun e m => evT G t e m K) ∧ evAlts G q rest e m K
def evAlt2 [Inp] (G : List CEntry) : List (XI × XT) → List Bool → Env → Mem → (Env → Mem → Prop) → Prop
  | [], _, _, _, _ => True
  | (i, t) :: rest, qs, e, m, K => ((qs.headD false = true → quiet G e i.op = true) ∧ evI G i e m fun e m => evT G t e m K) ∧ evAlt2 G rest qs.tail e m K
end
/-! ### From the code -/
def okDst (N : Nat) : Option Nat → Bool
  | none => true
  | some d => decide (d < N)
def compG (ops : Array Oper) : Option (Nat × Bool) → Option (Option (Nat × Bool))
  | none => some none
  | some (j, want) => ((ops[j]?).bind (·.dst)).map fun t => some (t, want)
def compI (P : Program) (N : Nat) (ops : Array Oper) (o : Oper) : Option XI :=
  if okDst N o.dst then (compG ops o.guard).bind fun g => (compB P o.op).map fun x => ⟨o.dst, g, x⟩ else none
def lin (P : Program) (N : Nat) (ops : Array Oper) : List Oper → Option XT
  | [] => some .done
  | o :: l => (compI P N ops o).bind fun i => (lin P N ops l).map (.seq i)
/-- May it be taken first? -/
def early (P : Program) (q : Bool) (o : Oper) : Bool :=
  match compA P o.op with
  | some x => q || !x.mem
  | none => false
def expl (P : Program) (N : Nat) (q : Bool) (ops : Array Oper) : Nat → Array Bool → Option XT
  | 0, listed => if Region.ready .any ops listed = [] then some .done else none
  | fuel + 1, listed =>
    let rs := Region.ready .any ops listed
    if rs = [] then some .done else
    match rs.find? fun i => ((ops[i]?).map (early P q)).getD false && Region.free .any ops listed i with
    | some i => (ops[i]?).bind fun o => (compI P N ops o).bind fun x => (expl P N q ops fuel (listed.setIfInBounds i true)).map (.take x)
    | none => (rs.mapM fun i => (ops[i]?).bind fun o => (compI P N ops o).bind fun x => (expl P N q ops fuel (listed.setIfInBounds i true)).map fun t => (x, t)).map (.act q)
section
variable {P : Program} {N : Nat} {r : List Loc} {e : Env} {m : Mem} {a : Act} {base : Nat → Prop} {w0 W : World} {ops : Array Oper}
theorem yielded_eq {j : Nat} {t : Nat} {o : Oper} (hj : (ops[j]?).bind (·.dst) = some t) (he : EnvIs N r e a.tmps) :
    (∀ b, e t = .v (.bool b) → yielded ops a.tmps j = some b) ∧ (e t = .tup [] → yielded ops a.tmps j = none) := by
  have hi := he.is t
  have hget : ∀ u, a.tmps.getD t undef = u → (∀ b, u = .bool b → yielded ops a.tmps j = some b) ∧ (u = undef → yielded ops a.tmps j = none) := by
    intro u hu
    unfold yielded
    rw [hj]
    simp only [Option.bind_some]
    constructor
    · rintro b rfl
      have : a.tmps[t]? = some (.bool b) := by
        rw [Array.getD_eq_getD_getElem?] at hu
        cases h : a.tmps[t]? with
        | none => rw [h] at hu; simp [undef] at hu
        | some x => rw [h] at hu; simp at hu; rw [hu]
      rw [this]
    · rintro rfl
      cases h : a.tmps[t]? with
      | none => rfl
      | some x =>
        rw [Array.getD_eq_getD_getElem?, h] at hu
        simp at hu
        rw [hu]
        simp [undef]
  obtain ⟨h1, h2⟩ := hget _ rfl
  constructor
  · intro b hb
    rw [hb] at hi
    simp only [SV.Is] at hi
    exact h1 b hi
  · intro hb
    rw [hb] at hi
    simp only [SV.Is, SV.IsL] at hi
    obtain ⟨us, h3, rfl⟩ := hi
    exact h2 h3
theorem EnvIs.same {e : Env} {ts : Array Value} {t : Nat} {s : SV} (h : EnvIs N r e ts) (ht : e t = s) : EnvIs N r (put e t s) ts := ⟨h.size, fun x => by
  unfold put
  split
  · rename_i hx; subst hx; rw [← ht]; exact h.is x
  · exact h.is x⟩
theorem undef_is (r : List Loc) : (SV.tup []).Is r undef := by simp only [SV.Is]; exact ⟨[], rfl, by simp [SV.IsL]⟩
/-- Whether it is wanted, and what becomes of it. -/
theorem evI_sound [Inp] {G : List CEntry} (hG : GOk P G) {Q : Exit → Act → World → Prop} {i : Nat} {o : Oper} {xi : XI} {K : Env → Mem → Prop} (ho : ops[i]? = some o) (hc : compI P N ops o = some xi) (h : evI G xi e m K) (hst : St base w0 r m W) (he : EnvIs N r e a.tmps)
    {Kr : Act → World → Prop} (hK : ∀ e' m' t a' W1, K e' m' → St base w0 (r ++ t) m' W1 → EnvIs N (r ++ t) e' a'.tmps → a'.defers = a.defers → (quiet G e xi.op = true → Same r W W1) → Kr a' W1) : wpOp P ops Q i Kr a W := by
  unfold compI at hc
  split at hc
  · rename_i hd
    obtain ⟨g, hg, hc⟩ := Option.bind_eq_some_iff.1 hc
    obtain ⟨x, hx, hc⟩ := Option.map_eq_some_iff.1 hc
    subst hc
    have hdst : ∀ y, o.dst = some y → y < N := by
      intro y hy; rw [hy] at hd; simpa [okDst] using hd
    have put_defers : ∀ u, (a.put o.dst u).defers = a.defers := fun u => by cases o.dst <;> rfl
    have run : ∀ e', (quiet G e x = true → quiet G e' x = true) → EnvIs N r e' a.tmps → evB G x e' m (fun s m' => K (putO e' o.dst s) m') → o.wp P a W Kr Q := fun e' hqe he hh =>
      compB_sound hG hx hh hst he (fun s m' t u W1 h1 h2 h3 h4 => hK _ _ t _ W1 h1 h2 ((he.grow t).putO o.dst hdst h3) (put_defers u) (fun hq => h4 (hqe hq)))
    have skip : ∀ e', EnvIs N r e' a.tmps → K (putO e' o.dst (.tup [])) m → Kr (a.put o.dst undef) W := fun e' he hh =>
      hK _ _ [] _ W hh (by simpa using hst) (by simpa using he.putO o.dst hdst (undef_is r)) (put_defers _) (fun _ => Same.refl _ _)
    unfold wpOp
    simp only [ho]
    unfold evI at h
    cases hgd : o.guard with
    | none =>
      rw [hgd] at hg
      simp only [compG] at hg
      injection hg with hg; subst hg
      simp only at h
      simp only [Region.wanted, hgd, if_true]
      exact .inl (run e id he h)
    | some jw =>
      obtain ⟨j, want⟩ := jw
      rw [hgd] at hg
      simp only [compG] at hg
      obtain ⟨t, ht, hg⟩ := Option.map_eq_some_iff.1 hg
      subst hg
      obtain ⟨y1, y2⟩ := yielded_eq (o := o) ht he
      simp only at h
      simp only [Region.wanted, hgd]
      split at h
      · rename_i b hb
        rw [y1 b hb]
        by_cases hbw : b = want
        · subst hbw
          simp only [BEq.rfl, if_true]
          rw [if_pos rfl] at h
          have hsame : put e t (.v (.bool b)) = e := by
            funext y
            unfold put
            split
            · rename_i hy; subst hy; exact hb.symm
            · rfl
          rw [hsame] at h
          exact .inl (run e id he h)
        · have : (some b == some want) = false := by cases b <;> cases want <;> simp_all
          rw [this]
          simp only [Bool.false_eq_true, if_false]
          rw [if_neg hbw] at h
          exact skip _ (he.same (by rw [hb]; cases b <;> cases want <;> simp_all)) h
      · rename_i hb
        rw [y2 hb]
        have : ((none : Option Bool) == some want) = false := rfl
        rw [this]
        simp only [Bool.false_eq_true, if_false]
        exact skip e he h
      · exact h.elim
  · cases hc
theorem lin_sound [Inp] {G : List CEntry} (hG : GOk P G) {Q : Exit → Act → World → Prop} {K : Env → Mem → Prop} : ∀ (l : List Oper) (k : Nat) {t : XT} {e : Env} {m : Mem} {r : List Loc} {a : Act} {W : World}, (∀ j o, l[j]? = some o → ops[k + j]? = some o) → lin P N ops l = some t → evT G t e m K → St base w0 r m W → EnvIs N r e a.tmps →
    (∀ e' m' r' a' W1, K e' m' → St base w0 r' m' W1 → EnvIs N r' e' a'.tmps → a'.defers = a.defers → Kp r r' → Q .normal a' W1) → wpOps P ops Q (List.range' k l.length) a W
  | [], k, t, e, m, r, a, W, hl, hc, h, hst, he, hK => by
    simp only [lin] at hc
    injection hc with hc; subst hc
    simp only [evT] at h
    simp only [List.length_nil, List.range'_zero, wpOps]
    exact hK _ _ _ _ _ h hst he rfl (Kp.refl _)
  | o :: l, k, t, e, m, r, a, W, hl, hc, h, hst, he, hK => by
    simp only [lin] at hc
    obtain ⟨xi, hxi, hc⟩ := Option.bind_eq_some_iff.1 hc
    obtain ⟨t', ht', hc⟩ := Option.map_eq_some_iff.1 hc
    subst hc
    simp only [evT] at h
    rw [List.length_cons, List.range'_succ, wpOps_cons]
    refine evI_sound hG (hl 0 o rfl) hxi h hst he (fun e' m' tt a' W1 h1 h2 h3 h4 _ => ?_)
    refine lin_sound hG l (k + 1) (fun j o' hj => by have := hl (j + 1) o' (by simpa using hj); rwa [show k + (j + 1) = k + 1 + j by omega] at this) ht' h1 h2 h3 (fun e' m' r' a'' W2 g1 g2 g3 g4 g5 => hK e' m' r' a'' W2 g1 g2 g3 (g4.trans h4) ((Kp.ext _ _).trans g5))
theorem wpAnyH_mono {Q : Exit → Act → World → Prop} {md : Region.Mode} {S S' : World → Prop} (hS : ∀ w, S' w → S w) : ∀ (fuel : Nat) (listed : Array Bool) (a : Act) (w : World), wpAnyH P md ops Q S' fuel listed a w → wpAnyH P md ops Q S fuel listed a w
  | 0, _, _, _, h => h
  | fuel + 1, _, _, _, h => ⟨h.1, fun i hi => wpOp_mono (fun a' w' h' => ⟨hS _ h'.1, wpAnyH_mono hS fuel _ a' w' h'.2⟩) (h.2 i hi)⟩
theorem compB_of_A {o : Op} {x : XA} (h : compA P o = some x) : compB P o = some (.ofA x) := by unfold compB; rw [h]
theorem evI_yields [Inp] {G : List CEntry} {q : Bool} {o : Oper} {xi : XI} {K : Env → Mem → Prop} (hc : compI P N ops o = some xi) (hq : early P q o = true) (h : evI G xi e m K) (hst : St base w0 r m W) (he : EnvIs N r e a.tmps) :
    (∀ y, o.dst = some y → y < N) ∧ ∃ s u, K (putO e o.dst s) m ∧ s.Is r u ∧ YieldsIf P ops (fun W' => q = true → Same r W W') o u a := by
  unfold early at hq
  split at hq
  · rename_i xa hxa
    unfold compI at hc
    split at hc
    · rename_i hd
      obtain ⟨g, hg, hc⟩ := Option.bind_eq_some_iff.1 hc
      obtain ⟨x, hx, hc⟩ := Option.map_eq_some_iff.1 hc
      subst hc
      rw [compB_of_A hxa] at hx
      injection hx with hx
      subst hx
      refine ⟨fun y hy => by rw [hy] at hd; simpa [okDst] using hd, ?_⟩
      have run : evB G (.ofA xa) e m (fun s m' => K (putO e o.dst s) m') → Region.wanted o (yielded ops a.tmps) = true → ∃ s u, K (putO e o.dst s) m ∧ s.Is r u ∧ YieldsIf P ops (fun W' => q = true → Same r W W') o u a := by
        intro hh hw
        simp only [evB] at hh
        obtain ⟨s, u, h1, h2, h3⟩ := compA_sound hxa hh hst he
        refine ⟨s, u, h1, h2, .inl ⟨hw, fun W' hS => h3 W' fun hm => hS ?_⟩⟩
        rw [hm] at hq
        simpa using hq
      have skip : K (putO e o.dst (.tup [])) m → Region.wanted o (yielded ops a.tmps) = false → ∃ s u, K (putO e o.dst s) m ∧ s.Is r u ∧ YieldsIf P ops (fun W' => q = true → Same r W W') o u a :=
        fun hh hw => ⟨_, _, hh, undef_is r, .inr ⟨hw, rfl⟩⟩
      unfold evI at h
      cases hgd : o.guard with
      | none =>
        rw [hgd] at hg
        simp only [compG] at hg
        injection hg with hg; subst hg
        exact run h (by simp [Region.wanted, hgd])
      | some jw =>
        obtain ⟨j, want⟩ := jw
        rw [hgd] at hg
        simp only [compG] at hg
        obtain ⟨t, ht, hg⟩ := Option.map_eq_some_iff.1 hg
        subst hg
        obtain ⟨y1, y2⟩ := yielded_eq (o := o) ht he
        simp only at h
        split at h
        · rename_i b hb
          by_cases hbw : b = want
          · subst hbw
            rw [if_pos rfl] at h
            have hsame : put e t (.v (.bool b)) = e := by
              funext y
              unfold put
              split
              · rename_i hy; subst hy; exact hb.symm
              · rfl
            rw [hsame] at h
            exact run h (by simp [Region.wanted, hgd, y1 b hb])
          · rw [if_neg hbw] at h
            have hsame : put e t (.v (.bool !want)) = e := by
              funext y
              unfold put
              split
              · rename_i hy; subst hy; rw [hb]; cases b <;> cases want <;> simp_all
              · rfl
            rw [hsame] at h
            refine skip h ?_
            simp only [Region.wanted, hgd, y1 b hb]
            cases b <;> cases want <;> simp_all
        · rename_i hb
          exact skip h (by simp [Region.wanted, hgd, y2 hb])
        · exact h.elim
    · cases hc
  · cases hq
theorem evAlts_mem [Inp] {G : List CEntry} {q : Bool} {K : Env → Mem → Prop} : ∀ {alts : List (XI × XT)}, evAlts G q alts e m K → ∀ x ∈ alts, (q = true → quiet G e x.1.op = true) ∧ evI G x.1 e m fun e m => evT G x.2 e m K
  | [], _, x, hx => by simp at hx
  | (i, t) :: rest, h, x, hx => by
    simp only [evAlts] at h
    rcases List.mem_cons.1 hx with rfl | hx
    · exact h.1
    · exact evAlts_mem h.2 x hx
theorem mapM_mem {α β : Type} {f : α → Option β} : ∀ {l : List α} {ys : List β}, l.mapM f = some ys → ∀ x ∈ l, ∃ y ∈ ys, f x = some y
  | [], ys, h, x, hx => by simp at hx
  | a :: l, ys, h, x, hx => by
    rw [List.mapM_cons] at h
    obtain ⟨b, hb, h⟩ := Option.bind_eq_some_iff.1 h
    obtain ⟨bs, hbs, h⟩ := Option.bind_eq_some_iff.1 h
    simp at h
    subst h
    rcases List.mem_cons.1 hx with rfl | hx
    · exact ⟨b, by simp, hb⟩
    · obtain ⟨y, hy, hf⟩ := mapM_mem hbs x hx
      exact ⟨y, by simp [hy], hf⟩
theorem expl_sound [Inp] {G : List CEntry} (hG : GOk P G) (q : Bool) (hsel : Region.noSelect ops = true) {Q : Exit → Act → World → Prop} (hQ : ∀ c a w, ¬ Q (.panic c) a w) {K : Env → Mem → Prop} :
    ∀ (fuel : Nat) {listed : Array Bool} {t : XT} {e : Env} {m : Mem} {r : List Loc} {a : Act} {W : World} {S : World → Prop}, expl P N q ops fuel listed = some t → evT G t e m K → St base w0 r m W → EnvIs N r e a.tmps → (∀ W', (q = true → Same r W W') → S W') →
    (∀ e' m' r' a' W1, K e' m' → St base w0 r' m' W1 → EnvIs N r' e' a'.tmps → a'.defers = a.defers → Kp r r' → Q .normal a' W1) → wpAnyH P .any ops Q S fuel listed a W
  | 0, listed, t, e, m, r, a, W, S, hc, h, hst, he, hS, hK => by
    simp only [expl] at hc
    split at hc
    · rename_i hr
      injection hc with hc; subst hc
      simp only [evT] at h
      exact ⟨hr, hK _ _ _ _ _ h hst he rfl (Kp.refl _)⟩
    · cases hc
  | fuel + 1, listed, t, e, m, r, a, W, S, hc, h, hst, he, hS, hK => by
    simp only [expl] at hc
    split at hc
    · rename_i hr
      injection hc with hc; subst hc
      simp only [evT] at h
      exact wpAnyH_done hr (hK _ _ _ _ _ h hst he rfl (Kp.refl _)) _
    rename_i hne
    split at hc
    · rename_i i hfind
      obtain ⟨o, ho, hc⟩ := Option.bind_eq_some_iff.1 hc
      obtain ⟨x, hx, hc⟩ := Option.bind_eq_some_iff.1 hc
      obtain ⟨t', ht', hc⟩ := Option.map_eq_some_iff.1 hc
      subst hc
      simp only [evT] at h
      have hp := List.find?_some hfind
      have hmem := List.mem_of_find?_eq_some hfind
      rw [ho] at hp
      simp only [Option.map_some, Option.getD_some, Bool.and_eq_true] at hp
      obtain ⟨hd, s, u, h1, h2, h3⟩ := evI_yields (ops := ops) hx hp.1 h hst he
      refine wpAnyH_mono (S' := fun W' => q = true → Same r W W') hS _ _ _ _ ?_
      refine wpAnyH_take ho hsel hp.2 (by simpa using hmem) (fun c a w hh => (hQ c _ w hh).elim) h3 (fun _ => Same.refl _ _) ?_
      refine expl_sound hG q hsel hQ fuel ht' h1 hst (he.putO o.dst hd h2) (fun W' hW => hW) (fun e' m' r' a' W1 g1 g2 g3 g4 g5 => hK e' m' r' a' W1 g1 g2 g3 (g4.trans (by cases o.dst <;> rfl)) g5)
    · rename_i hfind
      obtain ⟨alts, halts, hc⟩ := Option.map_eq_some_iff.1 hc
      subst hc
      simp only [evT] at h
      refine wpAnyH_all rfl hne (fun i hi => ?_)
      obtain ⟨y, hy, hf⟩ := mapM_mem halts i hi
      obtain ⟨o, ho, hf⟩ := Option.bind_eq_some_iff.1 hf
      obtain ⟨x, hx, hf⟩ := Option.bind_eq_some_iff.1 hf
      obtain ⟨t', ht', hf⟩ := Option.map_eq_some_iff.1 hf
      subst hf
      obtain ⟨hqu, hev⟩ := evAlts_mem h _ hy
      refine evI_sound hG ho hx hev hst he (fun e' m' tt a' W1 h1 h2 h3 h4 h5 => ?_)
      refine ⟨hS W1 (fun hq => h5 (hqu hq)), ?_⟩
      refine expl_sound hG q hsel hQ fuel ht' h1 h2 h3 (fun W' hW => hS W' fun hq => (h5 (hqu hq)).trans (hW hq).part) (fun e' m' r' a'' W2 g1 g2 g3 g4 g5 => hK e' m' r' a'' W2 g1 g2 g3 (g4.trans h4) ((Kp.ext _ _).trans g5))
/-! ### Where something in it changes memory: a look goes first if all that do wait for it -/
theorem getD_no {l : Array Bool} {k : Nat} (h1 : l.getD k false = true) (h0 : l.getD k true = false) : False := by
  rcases Nat.lt_or_ge k l.size with h' | h'
  · simp [h'] at h0 h1; rw [h0] at h1; cases h1
  · simp [Array.getElem?_eq_none h'] at h1
inductive Behind (ops : Array Oper) (listed : Array Bool) (i : Nat) : Nat → Prop where
  | here {j : Nat} {o : Oper} {e : Edge} : ops[j]? = some o → e ∈ o.after → Region.binds .any e = true → e.on = i → Behind ops listed i j
  | step {j : Nat} {o : Oper} {e : Edge} : ops[j]? = some o → e ∈ o.after → Region.binds .any e = true → listed.getD e.on true = false → Behind ops listed i e.on → Behind ops listed i j
theorem not_behind {listed : Array Bool} {i j : Nat} (hj : j ∈ Region.ready .any ops listed) (hi : listed.getD i true = false) (h : Behind ops listed i j) : False := by
  obtain ⟨_, oj, hoj, hall⟩ := mem_ready.1 hj
  cases h with
  | here h1 h2 h3 h4 =>
    rw [hoj] at h1; injection h1 with h1; subst h1
    have := hall _ h2 h3
    rw [h4] at this
    exact getD_no this hi
  | step h1 h2 h3 h4 h5 =>
    rw [hoj] at h1; injection h1 with h1; subst h1
    exact getD_no (hall _ h2 h3) h4
theorem Behind.mono {listed : Array Bool} {i j k : Nat} (hk : k ∈ Region.ready .any ops listed) (hi : listed.getD i true = false) (h : Behind ops listed i j) : Behind ops (listed.setIfInBounds k true) i j := by
  induction h with
  | here h1 h2 h3 h4 => exact .here h1 h2 h3 h4
  | @step j o e h1 h2 h3 h4 h5 ih =>
    refine .step h1 h2 h3 ?_ ih
    by_cases hke : k = e.on
    · rw [← hke] at h5; exact (not_behind hk hi h5).elim
    · rw [getD_set_ne true hke]; exact h4
def behindB (ops : Array Oper) (listed : Array Bool) (i : Nat) : Nat → Nat → Bool
  | 0, _ => false
  | n + 1, j => match ops[j]? with
    | some o => o.after.any fun e => Region.binds .any e && (e.on == i || (!listed.getD e.on true && behindB ops listed i n e.on))
    | none => false
theorem behindB_ok {listed : Array Bool} {i : Nat} : ∀ {n j : Nat}, behindB ops listed i n j = true → Behind ops listed i j
  | 0, j, h => by simp [behindB] at h
  | n + 1, j, h => by
    unfold behindB at h
    split at h
    · rename_i o ho
      obtain ⟨e, he, hb⟩ := Array.any_eq_true'.1 h
      simp only [Bool.and_eq_true, Bool.or_eq_true, beq_iff_eq, Bool.not_eq_true'] at hb
      rcases hb.2 with h1 | ⟨h1, h2⟩
      · exact .here ho he hb.1 h1
      · exact .step ho he hb.1 h1 (behindB_ok h2)
    · cases h
/-- Whatever order is picked from here on; behind each one that is still, what was there is as it was. -/
def wpAnyS (P : Program) (ops : Array Oper) (Q : Exit → Act → World → Prop) (st : Nat → Bool) (R : World → World → Prop) : Nat → Array Bool → Act → World → Prop
  | 0, listed, a, w => Region.ready .any ops listed = [] ∧ Q .normal a w
  | fuel + 1, listed, a, w =>
    (Region.ready .any ops listed = [] → Q .normal a w) ∧
    ∀ i ∈ Region.ready .any ops listed, wpOp P ops Q i (fun a' w' => (st i = true → R w w') ∧ wpAnyS P ops Q st R fuel (listed.setIfInBounds i true) a' w') a w
theorem wpAny_of_S {Q : Exit → Act → World → Prop} {st : Nat → Bool} {R : World → World → Prop} : ∀ (fuel : Nat) (listed : Array Bool) (a : Act) (w : World), wpAnyS P ops Q st R fuel listed a w → wpAny P .any ops Q fuel listed a w
  | 0, _, _, _, h => h
  | fuel + 1, _, _, _, h => ⟨h.1, fun i hi => wpOp_mono (fun a' w' h' => wpAny_of_S fuel _ a' w' h'.2) (h.2 i hi)⟩
theorem take2 {Q : Exit → Act → World → Prop} {st : Nat → Bool} {R : World → World → Prop} (hR : ∀ w, R w w) {S : World → Prop} {i : Nat} {oi : Oper} {v : Value} (hi : ops[i]? = some oi) (hsel : Region.noSelect ops = true)
    (hQ : ∀ c a w, Q (.panic c) (a.put oi.dst v) w → Q (.panic c) a w) :
    ∀ (fuel : Nat) (listed : Array Bool) (a : Act) (w : World),
      (∀ j oj, ops[j]? = some oj → j ≠ i → listed.getD j true = false → (∀ e ∈ oj.after, Region.binds .any e = true → e.on ≠ i) → oi.apart ops oj = true) →
      (∀ j, j < ops.size → j ≠ i → listed.getD j true = false → Behind ops listed i j ∨ ∀ w1 w2, S w1 → (st j = true → R w1 w2) → S w2) →
      i ∈ Region.ready .any ops listed → YieldsIf P ops S oi v a → S w →
      wpAnyS P ops Q st R fuel (listed.setIfInBounds i true) (a.put oi.dst v) w → wpAnyS P ops Q st R (fuel + 1) listed a w := by
  intro fuel
  induction fuel with
  | zero =>
    intro listed a w _ _ hr hy hS H
    refine ⟨fun h => (by rw [h] at hr; cases hr), fun j hj => ?_⟩
    by_cases hji : j = i
    · subst hji; exact hy.wpOp hi hS ⟨fun _ => hR _, H⟩
    · have := ready_mono hj hji
      rw [H.1] at this
      cases this
  | succ fuel ih =>
    intro listed a w hfree hk hr hy hS H
    refine ⟨fun h => (by rw [h] at hr; cases hr), fun j hj => ?_⟩
    by_cases hji : j = i
    · subst hji; exact hy.wpOp hi hS ⟨fun _ => hR _, H⟩
    · have h1 := H.2 j (ready_mono hj hji)
      obtain ⟨hjun, oj, hoj, hall⟩ := mem_ready.1 hj
      have hi0 := (mem_ready.1 hr).1
      have hnot : ∀ e ∈ oj.after, Region.binds .any e = true → e.on ≠ i := fun e he hb heq => by
        have h1 := hall e he hb
        rw [heq] at h1
        exact getD_no h1 hi0
      have hsel' := Region.noSelect_spec hsel
      have h2 := wpOp_putIf hoj (hfree j oj hoj hji hjun hnot) (fun cs b => hsel' i oi cs b hi) (fun cs b => hsel' j oj cs b hoj) hQ hy h1
      have hun2 : ∀ k, (listed.setIfInBounds j true).getD k true = false → listed.getD k true = false := fun k hun => by
        by_cases hjk : j = k
        · subst hjk; exact hjun
        · rw [getD_set_ne true hjk] at hun; exact hun
      have hstep : ∀ w2, (st j = true → R w w2) → S w2 := fun w2 hw2 => by
        rcases hk j (Array.getElem?_eq_some_iff.1 hoj).1 hji hjun with hb | hb
        · exact (not_behind hj hi0 hb).elim
        · exact hb w w2 hS hw2
      refine wpOp_mono (fun a' w' h3 => ⟨h3.2.1, ih (listed.setIfInBounds j true) a' w' (fun k ok hk1 hki hun hno => hfree k ok hk1 hki (hun2 k hun) hno) (fun k hk1 hki hun => ?_) (ready_mono hr (Ne.symm hji)) h3.1 (hstep w' h3.2.1) ?_⟩) h2
      · rcases hk k hk1 hki (hun2 k hun) with hb | hb
        · exact .inl (hb.mono hj hi0)
        · exact .inr hb
      · rw [Array.setIfInBounds_comm _ _ hji]
        exact h3.2.2
def stI (st : Oper → Bool) (ops : Array Oper) (i : Nat) : Bool := ((ops[i]?).map st).getD false
def pend (st : Oper → Bool) (ops : Array Oper) (listed : Array Bool) (i : Nat) : Bool :=
  (List.range ops.size).all fun j => j == i || (listed.getD j true || (stI st ops j || behindB ops listed i ops.size j))
def expl2 (P : Program) (N : Nat) (st : Oper → Bool) (ops : Array Oper) : Nat → Array Bool → Option XT
  | 0, listed => if Region.ready .any ops listed = [] then some .done else none
  | fuel + 1, listed =>
    let rs := Region.ready .any ops listed
    if rs = [] then some .done else
    match rs.find? fun i => Region.free .any ops listed i && ((ops[i]?).map fun o => early P false o || (early P true o && pend st ops listed i)).getD false with
    | some i => (ops[i]?).bind fun o => (compI P N ops o).bind fun x => (expl2 P N st ops fuel (listed.setIfInBounds i true)).map (.take x)
    | none => (rs.mapM fun i => (ops[i]?).bind fun o => (compI P N ops o).bind fun x => (expl2 P N st ops fuel (listed.setIfInBounds i true)).map fun t => (x, t)).map (.alt (rs.map (stI st ops)))
theorem evAlt2_mem [Inp] {G : List CEntry} {K : Env → Mem → Prop} {g : Nat → Bool} {f : Nat → Option (XI × XT)} : ∀ {rs : List Nat} {alts : List (XI × XT)}, rs.mapM f = some alts → evAlt2 G alts (rs.map g) e m K → ∀ i ∈ rs, ∃ y, f i = some y ∧ (g i = true → quiet G e y.1.op = true) ∧ evI G y.1 e m fun e m => evT G y.2 e m K
  | [], alts, h, hh, i, hi => by simp at hi
  | a :: rs, alts, h, hh, i, hi => by
    rw [List.mapM_cons] at h
    obtain ⟨b, hb, h⟩ := Option.bind_eq_some_iff.1 h
    obtain ⟨bs, hbs, h⟩ := Option.bind_eq_some_iff.1 h
    simp at h
    subst h
    obtain ⟨i0, t0⟩ := b
    simp only [List.map_cons, evAlt2, List.headD_cons, List.tail_cons] at hh
    rcases List.mem_cons.1 hi with rfl | hi
    · exact ⟨_, hb, hh.1⟩
    · exact evAlt2_mem hbs hh.2 i hi
theorem expl2_sound [Inp] {G : List CEntry} (hG : GOk P G) (st : Oper → Bool) (hsel : Region.noSelect ops = true) {Q : Exit → Act → World → Prop} (hQ : ∀ c a w, ¬ Q (.panic c) a w) {K : Env → Mem → Prop} :
    ∀ (fuel : Nat) {listed : Array Bool} {t : XT} {e : Env} {m : Mem} {r : List Loc} {a : Act} {W : World}, expl2 P N st ops fuel listed = some t → evT G t e m K → St base w0 r m W → EnvIs N r e a.tmps →
    (∀ e' m' r' a' W1, K e' m' → St base w0 r' m' W1 → EnvIs N r' e' a'.tmps → a'.defers = a.defers → Kp r r' → Q .normal a' W1) → wpAnyS P ops Q (stI st ops) (Same []) fuel listed a W
  | 0, listed, t, e, m, r, a, W, hc, h, hst, he, hK => by
    simp only [expl2] at hc
    split at hc
    · rename_i hr
      injection hc with hc; subst hc
      simp only [evT] at h
      exact ⟨hr, hK _ _ _ _ _ h hst he rfl (Kp.refl _)⟩
    · cases hc
  | fuel + 1, listed, t, e, m, r, a, W, hc, h, hst, he, hK => by
    simp only [expl2] at hc
    split at hc
    · rename_i hr
      injection hc with hc; subst hc
      simp only [evT] at h
      exact ⟨fun _ => hK _ _ _ _ _ h hst he rfl (Kp.refl _), fun i hi => by rw [hr] at hi; cases hi⟩
    rename_i hne
    split at hc
    · rename_i i hfind
      obtain ⟨o, ho, hc⟩ := Option.bind_eq_some_iff.1 hc
      obtain ⟨x, hx, hc⟩ := Option.bind_eq_some_iff.1 hc
      obtain ⟨t', ht', hc⟩ := Option.map_eq_some_iff.1 hc
      subst hc
      simp only [evT] at h
      have hp := List.find?_some hfind
      have hmem := List.mem_of_find?_eq_some hfind
      rw [ho] at hp
      simp only [Option.map_some, Option.getD_some, Bool.and_eq_true, Bool.or_eq_true] at hp
      obtain ⟨q, hq1, hq2⟩ : ∃ q, early P q o = true ∧ (q = true → pend st ops listed i = true) := by
        rcases hp.2 with h1 | h1
        · exact ⟨false, h1, fun h => by cases h⟩
        · exact ⟨true, h1.1, fun _ => h1.2⟩
      obtain ⟨hd, s, u, h1, h2, h3⟩ := evI_yields (ops := ops) hx hq1 h hst he
      refine take2 (S := fun W' => q = true → Same r W W') (fun w => Same.refl _ _) ho hsel (fun c a w hh => (hQ c _ w hh).elim) fuel listed a W (Region.free_spec ho hp.1) (fun j hj hji hun => ?_) hmem h3 (fun _ => Same.refl _ _) ?_
      · cases q with
        | false => exact .inr fun _ _ _ _ h => by cases h
        | true =>
          have := List.all_eq_true.1 (hq2 rfl) j (List.mem_range.2 hj)
          simp only [Bool.or_eq_true, beq_iff_eq, hji, hun, Bool.false_eq_true, false_or] at this
          rcases this with h4 | h4
          · exact .inr fun w1 w2 g1 g2 _ => (g1 rfl).trans (g2 h4)
          · exact .inl (behindB_ok h4)
      · exact expl2_sound hG st hsel hQ fuel ht' h1 hst (he.putO o.dst hd h2) (fun e' m' r' a' W1 g1 g2 g3 g4 g5 => hK e' m' r' a' W1 g1 g2 g3 (g4.trans (by cases o.dst <;> rfl)) g5)
    · rename_i hfind
      obtain ⟨alts, halts, hc⟩ := Option.map_eq_some_iff.1 hc
      subst hc
      simp only [evT] at h
      refine ⟨fun h0 => absurd h0 hne, fun i hi => ?_⟩
      obtain ⟨y, hf, hqu, hev⟩ := evAlt2_mem halts h i hi
      obtain ⟨o, ho, hf⟩ := Option.bind_eq_some_iff.1 hf
      obtain ⟨x, hx, hf⟩ := Option.bind_eq_some_iff.1 hf
      obtain ⟨t', ht', hf⟩ := Option.map_eq_some_iff.1 hf
      subst hf
      refine evI_sound hG ho hx hev hst he (fun e' m' tt a' W1 h1 h2 h3 h4 h5 => ?_)
      refine ⟨fun hq => h5 (hqu hq), ?_⟩
      exact expl2_sound hG st hsel hQ fuel ht' h1 h2 h3 (fun e' m' r' a'' W2 g1 g2 g3 g4 g5 => hK e' m' r' a'' W2 g1 g2 g3 (g4.trans h4) ((Kp.ext _ _).trans g5))
theorem wp_region_S {Q : Exit → Act → World → Prop} {st : Nat → Bool} {R : World → World → Prop} {id : Nat} (hm : P.follows .mixedOrders = true)
    (h : wpAnyS P ops Q st R ops.size (Array.replicate ops.size false) a W.drew) : (Code.region id ops true).wp P Q a W :=
  wp_region_any hm (wpAny_of_S _ _ _ _ h)
end
end Go.Proofs.Ytibefgdjijmncaa.Sz
