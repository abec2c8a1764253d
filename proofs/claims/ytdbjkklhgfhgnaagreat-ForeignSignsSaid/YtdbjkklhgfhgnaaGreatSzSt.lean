/- Symbolic walks: a call that is reckoned once from a known memory, whatever comes of it brought to one outcome. No condition. -/
import Derived.Test.YtdbjkklhgfhgnaaGreatSzW
import Derived.Test.YtdbjkklhgfhgnaaGreatSzZ
namespace Go.Proofs.YtdbjkklhgfhgnaaGreat.Sz
open Go.RowKit
set_option linter.unusedVariables false
set_option linter.unusedSimpArgs false
def atB (g : List Nat) (k k' : Nat) : Bool := match g[k]? with | some x => Nat.beq x k' | none => false
theorem atB_ok {g : List Nat} {k k' : Nat} (h : atB g k k' = true) : g[k]? = some k' := by
  unfold atB at h
  split at h
  · rename_i x hx
    rw [hx, nbeq.1 h]
  · cases h
mutual
def leB (g : List Nat) : SV → SV → Bool
  | .any, _ => true
  | .v x, .v y => veq x y
  | .ptr k o, .ptr k' o' => atB g k k' && Nat.beq o o'
  | .row k o n z, .row k' o' n' z' => atB g k k' && (Nat.beq o o' && (Nat.beq n n' && Nat.beq z z'))
  | .agg a, .agg b => leBL g a b
  | .tup a, .tup b => leBL g a b
  | .fn f a, .fn f' b => Nat.beq f f' && leBL g a b
  | .bnd f a, .bnd f' b => Nat.beq f f' && leBL g a b
  | .emp, .emp => true
  | .zro, .zro => true
  | .mp k, .mp k' => atB g k k'
  | _, _ => false
def leBL (g : List Nat) : List SV → List SV → Bool
  | [], [] => true
  | a :: l, b :: m => leB g a b && leBL g l m
  | _, _ => false
end
mutual
theorem leB_ok {g : List Nat} : ∀ {a b : SV}, leB g a b = true → Le g a b
  | .any, b, h => by simp only [Le]
  | .v a, b, h => by
    cases b <;> simp only [leB] at h <;> first | (cases h; done) | (rw [veq_ok h]; simp only [Le])
  | .ptr k o, b, h => by
    cases b <;> simp only [leB] at h <;> first | (cases h; done) | skip
    rw [Bool.and_eq_true] at h
    simp only [Le, atB_ok h.1, nbeq.1 h.2]
  | .row k o n z, b, h => by
    cases b <;> simp only [leB] at h <;> first | (cases h; done) | skip
    simp only [Bool.and_eq_true] at h
    simp only [Le, atB_ok h.1, nbeq.1 h.2.1, nbeq.1 h.2.2.1, nbeq.1 h.2.2.2]
  | .agg a, b, h => by
    cases b <;> simp only [leB] at h <;> first | (cases h; done) | (simp only [Le]; exact leBL_ok h)
  | .tup a, b, h => by
    cases b <;> simp only [leB] at h <;> first | (cases h; done) | (simp only [Le]; exact leBL_ok h)
  | .fn f a, b, h => by
    cases b <;> simp only [leB] at h <;> first | (cases h; done) | skip
    rw [Bool.and_eq_true] at h
    simp only [Le]
    exact ⟨(nbeq.1 h.1).symm, leBL_ok h.2⟩
  | .bnd f a, b, h => by
    cases b <;> simp only [leB] at h <;> first | (cases h; done) | skip
    rw [Bool.and_eq_true] at h
    simp only [Le]
    exact ⟨(nbeq.1 h.1).symm, leBL_ok h.2⟩
  | .emp, b, h => by cases b <;> simp only [leB] at h <;> first | (cases h; done) | simp only [Le]
  | .zro, b, h => by cases b <;> simp only [leB] at h <;> first | (cases h; done) | simp only [Le]
  | .mp k, b, h => by
    cases b <;> simp only [leB] at h <;> first | (cases h; done) | simp only [Le, atB_ok h]
theorem leBL_ok {g : List Nat} : ∀ {a b : List SV}, leBL g a b = true → LeL g a b
  | [], [], _ => by simp only [LeL]
  | [], _ :: _, h => by simp [leBL] at h
  | _ :: _, [], h => by simp [leBL] at h
  | a :: l, b :: m, h => by
    simp only [leBL, Bool.and_eq_true] at h
    simp only [LeL]
    exact ⟨leB_ok h.1, leBL_ok h.2⟩
end
def noX (o : SObj) : Bool := match o.x.v with | .no => true | _ => false
theorem noX_ok {o : SObj} (h : noX o = true) : o.x = noExt := by
  obtain ⟨own, cells⟩ := o
  rename_i x
  obtain ⟨x⟩ := x
  cases x <;> simp only [noX] at h <;> first | (cases h; done) | rfl
def obB (g : List Nat) (o' o : SObj) : Bool := noX o' && (noX o && ((!o'.own || o.own) && leBL g o'.cells o.cells))
theorem obB_ok {g : List Nat} {o' o : SObj} (h : obB g o' o = true) : ObLe g o' o := by
  simp only [obB, Bool.and_eq_true] at h
  obtain ⟨h1, h2, h3, h4⟩ := h
  refine .inr ⟨fun ho => ?_, leBL_ok h4, ?_⟩
  · rw [ho] at h3; simpa using h3
  · rw [noX_ok h1, noX_ok h2]; simp
def fitB (g : List Nat) (lk : Nat → Option SObj) : List Nat → List SObj → Bool
  | [], [] => true
  | k :: ks, o' :: m' => (match lk k with | some o => obB g o' o | none => false) && fitB g lk ks m'
  | _, _ => false
theorem fitB_ok {g : List Nat} {lk : Nat → Option SObj} {m : Mem} (hl : ∀ k, m[k]? = lk k) : ∀ {ks : List Nat} {m' : List SObj}, fitB g lk ks m' = true → FitM g m ks m'
  | [], [], _ => trivial
  | [], _ :: _, h => by simp [fitB] at h
  | _ :: _, [], h => by simp [fitB] at h
  | k :: ks, o' :: m', h => by
    simp only [fitB, Bool.and_eq_true] at h
    simp only [FitM]
    refine ⟨?_, fitB_ok hl h.2⟩
    rw [hl]
    have h1 := h.1
    split at h1
    · rename_i o ho
      rw [ho]
      exact obB_ok h1
    · cases h1
def notIn (k : Nat) : List Nat → Bool
  | [] => true
  | x :: l => !Nat.beq k x && notIn k l
theorem notIn_ok {k : Nat} : ∀ {l : List Nat}, notIn k l = true → k ∉ l
  | [], _ => by simp
  | x :: l, h => by
    simp only [notIn, Bool.and_eq_true, Bool.not_eq_true'] at h
    simp only [List.mem_cons, not_or]
    exact ⟨nbeqf.1 h.1, notIn_ok h.2⟩
def noDupB : List Nat → Bool
  | [] => true
  | k :: l => notIn k l && noDupB l
theorem noDupB_ok : ∀ {l : List Nat}, noDupB l = true → l.Nodup
  | [], _ => List.nodup_nil
  | k :: l, h => by
    simp only [noDupB, Bool.and_eq_true] at h
    exact List.nodup_cons.2 ⟨notIn_ok h.1, noDupB_ok h.2⟩
def keepB (d : Nat) (g : List Nat) : Bool := (List.range d).all fun k => atB g k k
theorem keepB_ok {d : Nat} {g : List Nat} (h : keepB d g = true) : ∀ k, k < d → g[k]? = some k := fun k hk => atB_ok (List.all_eq_true.1 h k (List.mem_range.2 hk))
def sobq (o o' : SObj) : Bool := noX o && (noX o' && ((o.own == o'.own) && seqL o.cells o'.cells))
theorem sobq_ok {o o' : SObj} (h : sobq o o' = true) : o = o' := by
  simp only [sobq, Bool.and_eq_true] at h
  obtain ⟨h1, h2, h3, h4⟩ := h
  have e1 := noX_ok h1
  have e2 := noX_ok h2
  obtain ⟨a, b⟩ := o
  obtain ⟨c, d⟩ := o'
  simp only at e1 e2 h3 h4
  subst e1; subst e2
  have h3 : a = c := by simpa using h3
  rw [h3, seqL_ok h4]
def mtq : MT → MT → Bool
  | .tip, .tip => true
  | .node o l r, .node o' l' r' => sobq o o' && (mtq l l' && mtq r r')
  | _, _ => false
theorem mtq_ok : ∀ {a b : MT}, mtq a b = true → a = b
  | .tip, .tip, _ => rfl
  | .tip, .node .., h => by simp [mtq] at h
  | .node .., .tip, h => by simp [mtq] at h
  | .node .., .node .., h => by
    simp only [mtq, Bool.and_eq_true] at h
    rw [sobq_ok h.1, mtq_ok h.2.1, mtq_ok h.2.2]
/-- What comes of one known call alone. -/
def onlyAt (args : List SV) (mm0 : MM) (s : SV) (mm1 : MM) : Nat_ := fun a lo mm => bif Nat.beq lo 0 && (seqL a args && (Nat.beq mm.n mm0.n && mtq mm.t mm0.t)) then some [(s, mm1)] else none
theorem onlyAt_ok {args a : List SV} {mm0 mm1 mm : MM} {s : SV} {lo : Nat} {L : List (SV × MM)} (h : onlyAt args mm0 s mm1 a lo mm = some L) : a = args ∧ lo = 0 ∧ mm = mm0 ∧ L = [(s, mm1)] := by
  unfold onlyAt at h
  obtain ⟨h1, h2⟩ := bif_some' h
  simp only [Bool.and_eq_true] at h1
  injection h2 with h2
  refine ⟨seqL_ok h1.2.1, nbeq.1 h1.1, ?_, h2.symm⟩
  obtain ⟨t, n⟩ := mm
  obtain ⟨t0, n0⟩ := mm0
  simp only at h1
  rw [nbeq.1 h1.2.2.1, mtq_ok h1.2.2.2]
/-- Is each outcome brought to a given one by one of some renumberings? -/
def stageL (n : Nat) (s : SV) (mm1 : MM) (gs : List (List Nat)) : Option (List (SV × MM)) → Bool
  | some L => L.all fun o => gs.any fun g => noDupB g && (keepB n g && (leB g s o.1 && fitB g (o.2.at_ 0) g (mm1.mem 0)))
  | none => false
def isRun : Option RE → Bool
  | some (.run _ _ _) => true
  | _ => false
def stageB (T : List RE) (lf n : Nat) (f : FuncId) (args : List SV) (mm0 : MM) (s : SV) (mm1 : MM) (gs : List (List Nat)) : Bool :=
  Nat.ble mm0.n mm1.n && (isRun (lkR f T) && stageL mm0.n s mm1 gs (runF T lf n f args 0 mm0))
theorem stage_ok {P : Program} {eff : List FuncId} {T : List RE} (hT : TOk P eff T) {lf n : Nat} {f : FuncId} {args : List SV} {mm0 : MM} {s : SV} {mm1 : MM} {gs : List (List Nat)} (h : stageB T lf n f args mm0 s mm1 gs = true) : ∀ I : Inp, @Callable I P f false (natTr (onlyAt args mm0 s mm1)) := fun I => by
  simp only [stageB, Bool.and_eq_true] at h
  obtain ⟨hnn, hrun, h⟩ := h
  obtain ⟨f', q', r', hc⟩ : ∃ f' q' r', lkR f T = some (.run f' q' r') := by
    unfold isRun at hrun
    split at hrun
    · rename_i hc; exact ⟨_, _, _, hc⟩
    · cases hrun
  obtain ⟨L, hL, hall⟩ : ∃ L, runF T lf n f args 0 mm0 = some L ∧ stageL mm0.n s mm1 gs (some L) = true := by
    cases hr : runF T lf n f args 0 mm0 with
    | none => rw [hr] at h; cases h
    | some L => rw [hr] at h; exact ⟨L, rfl, h⟩
  simp only [stageL] at hall
  clear h
  have hcon : Contract P f (qfT T f) (runTr T lf n f) := run_contract hT lf n I f _ hc
  refine .inl ⟨hcon.enter, fun a m k base w0 W r vs ht hst ha => ?_⟩
  obtain ⟨lo, mm, L1, hlo, rfl, hg, hk⟩ := ht
  obtain ⟨rfl, rfl, rfl, rfl⟩ := onlyAt_ok hg
  have hk1 := hk _ (List.mem_singleton.2 rfl) ⟨Nat.le_of_ble_eq_true hnn, fun i hi => by omega⟩
  refine (hcon.calls a (mm.mem 0) (fun s' m' => ∃ g : List Nat, g.Nodup ∧ (∀ k, k < mm.n → g[k]? = some k) ∧ Le g s s' ∧ FitM g m' g (mm1.mem 0)) base w0 W r vs ⟨0, mm, L, Nat.zero_le _, rfl, hL, fun o ho _ => ?_⟩ hst ha).mono ?_
  · have := List.all_eq_true.1 hall o ho
    rw [List.any_eq_true] at this
    obtain ⟨g, _, hb⟩ := this
    simp only [Bool.and_eq_true] at hb
    exact ⟨g, noDupB_ok hb.1, keepB_ok hb.2.1, leB_ok hb.2.2.1, fitB_ok (fun k => mem_at) hb.2.2.2⟩
  · rintro e W1 ⟨s', m', t, u, ⟨g, hn, hkp, hle, hfm⟩, rfl, hst1, hu, _⟩
    obtain ⟨r2, hst2, hs2, hkp2⟩ := Turn.fit (d := mm.n) g (NdL_of hn) hfm hle hkp base w0 W1 (r ++ t) u hst1 hu
    have hrl : r.length = mm.n := by rw [hst.len, mem_len]
    obtain ⟨t2, rfl⟩ : ∃ t2, r2 = r ++ t2 := by
      refine ⟨r2.drop r.length, ?_⟩
      apply List.ext_getElem?
      intro k
      by_cases hlt : k < r.length
      · rw [List.getElem?_append_left hlt, List.getElem?_eq_getElem hlt]
        exact hkp2 k (by omega) _ (by rw [List.getElem?_append_left hlt]; exact List.getElem?_eq_getElem hlt)
      · rw [List.getElem?_append_right (by omega), List.getElem?_drop]
        congr 1
        omega
    exact ⟨s, mm1.mem 0, t2, u, hk1, rfl, hst2, hs2, fun h => by cases h⟩
end Go.Proofs.YtdbjkklhgfhgnaaGreat.Sz
