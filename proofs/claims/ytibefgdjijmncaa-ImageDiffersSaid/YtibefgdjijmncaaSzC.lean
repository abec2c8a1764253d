/- Symbolic walks, part C: what the operations that only look come to. No condition. -/
import Derived.Test.YtibefgdjijmncaaSzB
import Derived.Laws.BytesString
namespace Go.Proofs.Ytibefgdjijmncaa.Sz
open Go.RowKit
set_option linter.unusedVariables false
set_option linter.unusedSimpArgs false
section
variable {P : Program} {n : Nat} {r : List Loc} {e : Env} {m : Mem} {a : Act}
theorem evBin_sound {op : BinOp} {x y : SV} {u v : Value} {K : SV → Prop} (t : TypeId) (h : evBin op x y K) (hx : x.Is r u) (hy : y.Is r v) (X Y : Operand) :
    ∃ s z, K s ∧ s.Is r z ∧ ∀ W, (do eqGuard op t X Y u v; binOp op t u v).run P W = .ok z W := by
  unfold evBin at h
  split at h
  · simp only [SV.Is] at hx hy
    subst hx hy
    obtain ⟨s, z, h1, h2, h3⟩ := evInt_sound (r := r) (P := P) t h
    refine ⟨s, z, h1, h2, fun W => ?_⟩
    rw [← h3 W]
    unfold eqGuard
    split <;> simp
  · simp only [SV.Is] at hx hy
    subst hx hy
    obtain ⟨s, z, h1, h2, h3⟩ := evStr_sound (r := r) (P := P) t h
    refine ⟨s, z, h1, h2, fun W => ?_⟩
    rw [← h3 W]
    unfold eqGuard
    split <;> simp
  · exact h.elim
theorem run_eq {t : TypeId} {u v : Value} {b : Bool} {W : World} (h1 : ∀ k a, u ≠ .int k a) (h2 : ∀ s, u ≠ .string s) (h3 : ∀ k a, u ≠ .float k a) (h4 : ∀ k a b, u ≠ .complex k a b) (h : (Op.equalIn (9999 + 1) t u v).run P W = .ok b W) :
    (binOp .eql t u v).run P W = .ok (.bool b) W ∧ (binOp .neq t u v).run P W = .ok (.bool !b) W := by
  have he : Op.equal t u v = Op.equalIn (9999 + 1) t u v := rfl
  cases u
  case int k a => exact (h1 k a rfl).elim
  case string a => exact (h2 a rfl).elim
  case float a b => exact (h3 a b rfl).elim
  case complex a b c => exact (h4 a b c rfl).elim
  all_goals
    constructor
    · show (do pure (Value.bool (← Op.equal t _ v))).run P W = _
      rw [he]; simp [h]
    · show (do pure (Value.bool (!(← Op.equal t _ v)))).run P W = _
      rw [he]; simp [h]
theorem evEqb_sound {op : BinOp} {x y : SV} {u v : Value} {K : SV → Prop} {t : TypeId} (hop : op = .eql ∨ op = .neq) (hu : P.underlying t = some .bool) (h : evEqb (isNeq op) x y K) (hx : x.Is r u) (hy : y.Is r v) (X Y : Operand) :
    ∃ s z, K s ∧ s.Is r z ∧ ∀ W, (do eqGuard op t X Y u v; binOp op t u v).run P W = .ok z W := by
  unfold evEqb at h
  split at h
  · rename_i a b
    simp only [SV.Is] at hx hy
    subst hx hy
    refine ⟨_, _, h, by simp only [SV.Is]; rfl, fun W => ?_⟩
    have hb := run_eq (P := P) (t := t) (u := .bool a) (v := .bool b) (b := a == b) (W := W) (by simp) (by simp) (by simp) (by simp) (run_equalIn_bool' W 9999 t a b hu)
    rcases hop with rfl | rfl
    · simp [eqGuard]; exact hb.1
    · simp [eqGuard]; exact hb.2
  · exact h.elim
theorem nil_is {x : SV} {u : Value} {k : Nat} {b : Bool} (h : isNil x = some b) (hk : sort x = k) (hx : x.Is r u) :
    (k = 1 ∧ ∃ p, u = .pointer p ∧ p.isNone = b) ∨ (k = 2 ∧ ∃ p n c, u = .slice p n c ∧ p.isNone = b) ∨ (k = 3 ∧ ((b = true ∧ u = .nilFunc) ∨ (b = false ∧ ∃ f a c, u = .func f a c))) := by
  unfold isNil at h
  split at h
  all_goals first | (simp at h; done) | skip
  all_goals simp only [SV.Is] at hx
  all_goals
    injection h with h
    subst h
    simp only [sort] at hk
    subst hk
  · subst hx; simp
  · subst hx; simp
  · subst hx; simp
  · obtain ⟨l, _, rfl⟩ := hx; simp
  · obtain ⟨l, c, _, _, _, rfl⟩ := hx; simp
  · obtain ⟨us, rfl, _⟩ := hx; simp
  · obtain ⟨a, c, rfl, _⟩ := hx; simp
  · obtain ⟨us, rfl, _⟩ := hx; simp
def SrtIs (P : Program) (t : TypeId) (k : Nat) : Prop := (k = 1 ∧ ∃ e, P.underlying t = some (.pointer e)) ∨ (k = 2 ∧ ∃ e, P.underlying t = some (.slice e)) ∨ (k = 3 ∧ ∃ x y z, P.underlying t = some (.func x y z))
section
variable (d : Nat) (t : TypeId) (W : World)
theorem eqIn_ptr0 {e : TypeId} (hu : P.underlying t = some (.pointer e)) (q : Option Addr) : (Op.equalIn (d + 1) t (.pointer none) (.pointer q)).run P W = .ok q.isNone W := by simp [Op.equalIn, run_underlying hu]
theorem eqIn_ptr1 {e : TypeId} (hu : P.underlying t = some (.pointer e)) (q : Addr) : (Op.equalIn (d + 1) t (.pointer (some q)) (.pointer none)).run P W = .ok false W := by simp [Op.equalIn, run_underlying hu]
theorem eqIn_sl0 {e : TypeId} (hu : P.underlying t = some (.slice e)) (q : Option Addr) (a b c f : Nat) : (Op.equalIn (d + 1) t (.slice none a b) (.slice q c f)).run P W = .ok q.isNone W := by simp [Op.equalIn, run_underlying hu]
theorem eqIn_sl1 {e : TypeId} (hu : P.underlying t = some (.slice e)) (q : Addr) (a b c f : Nat) : (Op.equalIn (d + 1) t (.slice (some q) a b) (.slice none c f)).run P W = .ok false W := by simp [Op.equalIn, run_underlying hu]
theorem eqIn_fn00 {x y : Array TypeId} {z : Bool} (hu : P.underlying t = some (.func x y z)) : (Op.equalIn (d + 1) t .nilFunc .nilFunc).run P W = .ok true W := by simp [Op.equalIn, run_underlying hu]
theorem eqIn_fn01 {x y : Array TypeId} {z : Bool} (hu : P.underlying t = some (.func x y z)) (f : Fn) (a b : Array Value) : (Op.equalIn (d + 1) t .nilFunc (.func f a b)).run P W = .ok false W := by simp [Op.equalIn, run_underlying hu]
theorem eqIn_fn10 {x y : Array TypeId} {z : Bool} (hu : P.underlying t = some (.func x y z)) (f : Fn) (a b : Array Value) : (Op.equalIn (d + 1) t (.func f a b) .nilFunc).run P W = .ok false W := by simp [Op.equalIn, run_underlying hu]
end
theorem evEqn_sound {op : BinOp} {x y : SV} {u v : Value} {K : SV → Prop} {t : TypeId} {k : Nat} (hop : op = .eql ∨ op = .neq) (hu : SrtIs P t k) (h : evEqn (isNeq op) k x y K) (hx : x.Is r u) (hy : y.Is r v) (X Y : Operand) :
    ∃ s z, K s ∧ s.Is r z ∧ ∀ W, (do eqGuard op t X Y u v; binOp op t u v).run P W = .ok z W := by
  unfold evEqn at h
  have fin : ∀ b : Bool, (∀ W, (Op.equalIn (9999 + 1) t u v).run P W = .ok b W) → (∀ k a, u ≠ .int k a) → (∀ s, u ≠ .string s) → (∀ k a, u ≠ .float k a) → (∀ k a b, u ≠ .complex k a b) → (u ≠ .nilIface) → (∀ c, u ≠ .agg c) → K (.v (.bool (bif (isNeq op) then !b else b))) →
      ∃ s z, K s ∧ s.Is r z ∧ ∀ W, (do eqGuard op t X Y u v; binOp op t u v).run P W = .ok z W := by
    intro b hb h1 h2 h3 h4 h5 h6 hK
    refine ⟨_, _, hK, by simp only [SV.Is]; rfl, fun W => ?_⟩
    have hb := run_eq (P := P) (t := t) (u := u) (v := v) (b := b) (W := W) h1 h2 h3 h4 (hb W)
    have hg : eqGuard op t X Y u v = pure () := by
      unfold eqGuard
      rcases hop with rfl | rfl <;> (cases u <;> first | rfl | exact (h5 rfl).elim | exact (h6 _ rfl).elim)
    rw [hg]
    rcases hop with rfl | rfl
    · simpa [isNeq] using hb.1
    · simpa [isNeq] using hb.2
  split at h
  · rename_i b hnx hny
    obtain ⟨⟨s1, s2⟩, hK⟩ := h
    have nx := nil_is hnx s1 hx
    have ny := nil_is hny s2 hy
    rcases hu with ⟨rfl, e, hu⟩ | ⟨rfl, e, hu⟩ | ⟨rfl, e1, e2, e3, hu⟩
    · obtain ⟨p, rfl, hp⟩ : ∃ p, u = .pointer p ∧ p.isNone = true := by simpa using nx
      obtain ⟨q, rfl, hq⟩ : ∃ p, v = .pointer p ∧ p.isNone = b := by simpa using ny
      obtain rfl : p = none := by simpa using hp
      exact fin b (fun W => (eqIn_ptr0 9999 t W hu q).trans (by rw [hq])) (by simp) (by simp) (by simp) (by simp) (by simp) (by simp) hK
    · obtain ⟨p, n1, c1, rfl, hp⟩ : ∃ p n c, u = .slice p n c ∧ p.isNone = true := by simpa using nx
      obtain ⟨q, n2, c2, rfl, hq⟩ : ∃ p n c, v = .slice p n c ∧ p.isNone = b := by simpa using ny
      obtain rfl : p = none := by simpa using hp
      exact fin b (fun W => (eqIn_sl0 9999 t W hu q n1 c1 n2 c2).trans (by rw [hq])) (by simp) (by simp) (by simp) (by simp) (by simp) (by simp) hK
    · obtain rfl : u = .nilFunc := by simpa using nx
      have ny' : (b = true ∧ v = .nilFunc) ∨ (b = false ∧ ∃ f a c, v = .func f a c) := by simpa using ny
      rcases ny' with ⟨rfl, rfl⟩ | ⟨rfl, f, a, c, rfl⟩
      · exact fin true (fun W => eqIn_fn00 9999 t W hu) (by simp) (by simp) (by simp) (by simp) (by simp) (by simp) hK
      · exact fin false (fun W => eqIn_fn01 9999 t W hu f a c) (by simp) (by simp) (by simp) (by simp) (by simp) (by simp) hK
  · rename_i hnx hny
    obtain ⟨⟨s1, s2⟩, hK⟩ := h
    have nx := nil_is hnx s1 hx
    have ny := nil_is hny s2 hy
    have hK' : K (.v (.bool (bif (isNeq op) then !false else false))) := by
      rcases hop with rfl | rfl <;> exact hK
    rcases hu with ⟨rfl, e, hu⟩ | ⟨rfl, e, hu⟩ | ⟨rfl, e1, e2, e3, hu⟩
    · obtain ⟨p, rfl, hp⟩ : ∃ p, u = .pointer p ∧ p.isNone = false := by simpa using nx
      obtain ⟨q, rfl, hq⟩ : ∃ p, v = .pointer p ∧ p.isNone = true := by simpa using ny
      obtain rfl : q = none := by simpa using hq
      obtain ⟨p, rfl⟩ : ∃ a, p = some a := by cases p <;> simp_all
      exact fin false (fun W => eqIn_ptr1 9999 t W hu p) (by simp) (by simp) (by simp) (by simp) (by simp) (by simp) hK'
    · obtain ⟨p, n1, c1, rfl, hp⟩ : ∃ p n c, u = .slice p n c ∧ p.isNone = false := by simpa using nx
      obtain ⟨q, n2, c2, rfl, hq⟩ : ∃ p n c, v = .slice p n c ∧ p.isNone = true := by simpa using ny
      obtain rfl : q = none := by simpa using hq
      obtain ⟨p, rfl⟩ : ∃ a, p = some a := by cases p <;> simp_all
      exact fin false (fun W => eqIn_sl1 9999 t W hu p n1 c1 n2 c2) (by simp) (by simp) (by simp) (by simp) (by simp) (by simp) hK'
    · obtain ⟨f, a, c, rfl⟩ : ∃ f a c, u = .func f a c := by simpa using nx
      obtain rfl : v = .nilFunc := by simpa using ny
      exact fin false (fun W => eqIn_fn10 9999 t W hu f a c) (by simp) (by simp) (by simp) (by simp) (by simp) (by simp) hK'
  · exact h.elim
theorem run_loadCells_at {W : World} {l : Loc} {us : List Value} {o : Nat} (h : ∀ (j : Nat) (u : Value), us[j]? = some u → W.cell? ⟨l.blk, l.off + j, none⟩ = some u) (k : Nat) (hk : o + k ≤ us.length) :
    (loadCells ⟨l.blk, l.off + o, none⟩ k).run P W = .ok ((us.drop o).take k).toArray W := by
  have := run_loadCells_list (P := P) W ⟨l.blk, l.off + o, none⟩ ((us.drop o).take k) (fun j v hj => by
    rw [Addr.add_lit]
    have := take_drop_get us o k j v hj
    rw [Nat.add_assoc]; exact h _ _ this)
  rwa [show ((us.drop o).take k).length = k by simp; omega] at this
/-- What an object's block holds. -/
theorem obj_cells' {base : Nat → Prop} {W : World} {l : Loc} {ob : SObj} (h : ObjAt base r W l ob) :
    ∃ us, SV.IsL r ob.cells us ∧ ∀ W' : World, W'.heap[l.blk]? = W.heap[l.blk]? → ∀ (j : Nat) (u : Value), us[j]? = some u → W'.cell? ⟨l.blk, l.off + j, none⟩ = some u := by
  cases hm : ob.isM with
  | true =>
    have := h.ext
    unfold ExtIs at this
    unfold SObj.isM at hm
    split at hm
    · rename_i kt ps he
      simp only [he] at this
      exact ⟨[], by rw [this.1.1]; simp [SV.IsL], fun _ _ j u hj => by simp at hj⟩
    · cases hm
  | false =>
    by_cases hc : ob.cells = []
    · exact ⟨[], by rw [hc]; simp [SV.IsL], fun _ _ j u hj => by simp at hj⟩
    obtain ⟨c, T, fr, h1, h2, h3, h4⟩ := h.there hm (.inr hc)
    refine ⟨_, h3, fun W' hs j u hj => ?_⟩
    rw [cell_of_row W' _ _ c T fr (hs.trans h1)]
    rw [List.getElem?_take] at hj
    split at hj
    · rw [List.getElem?_drop] at hj
      simpa using hj
    · cases hj
theorem notM {base : Nat → Prop} {W : World} {l : Loc} {ob : SObj} (h : ObjAt base r W l ob) (hc : ob.cells ≠ []) : ob.isM = false := by
  cases hm : ob.isM with
  | false => rfl
  | true =>
    have := h.ext
    unfold ExtIs at this
    unfold SObj.isM at hm
    split at hm
    · rename_i kt ps he
      simp only [he] at this
      exact (hc this.1.1).elim
    · cases hm
theorem load_sound {base : Nat → Prop} {W : World} {l : Loc} {ob : SObj} {o k0 : Nat} {t : TypeId} {z : Option Nat} {K : SV → Prop} (hz : szOf P t = some z) (h : evPart ob.cells o z K) (hl : r[k0]? = some l) (hob : ObjAt base r W l ob) :
    ∃ s u, K s ∧ s.Is r u ∧ ∀ W' : World, W'.heap[l.blk]? = W.heap[l.blk]? → (Instr.loadAt t (.pointer (some ⟨l.blk, l.off + o, none⟩))).run P W' = .ok u W' := by
  obtain ⟨us, hus, hW⟩ := obj_cells' hob
  cases z with
  | none =>
    obtain ⟨d, hd, hda⟩ := szOf_one hz
    simp only [evPart] at h
    split at h
    · rename_i s hsome
      obtain ⟨u, hu, huss⟩ := IsL_get hus hsome
      refine ⟨s, u, h, huss, fun W' hs => ?_⟩
      have hc : W'.cell? ⟨l.blk, l.off + o, none⟩ = some u := hW W' hs _ _ hu
      simp [Instr.loadAt, Instr.sureAddr, loadVar, run_isAgg (P := P) hd, hda, hc]
    · exact h.elim
  | some k =>
    obtain ⟨d, i, hd, hda, hi, hk⟩ := szOf_agg hz
    simp only [evPart] at h
    refine ⟨_, .agg ((us.drop o).take k).toArray, h.2, ?_, fun W' hs => ?_⟩
    · simp only [SV.Is]
      exact ⟨_, rfl, IsL_take _ (IsL_drop _ hus)⟩
    · have := run_loadCells_at (P := P) (hW W' hs) k (o := o) (by rw [IsL_len hus]; exact h.1)
      simp [Instr.loadAt, Instr.sureAddr, loadVar, run_isAgg (P := P) hd, hda, sizeOf, typeInfo, hi, hk, this]
theorem ev_list (hg : ∀ x, ((XO.of x).get e).Is r (a.eval x)) : ∀ l : List Operand, SV.IsL r (l.map fun x => (XO.of x).get e) (l.map a.eval)
  | [] => by simp [SV.IsL]
  | x :: l => by simp only [List.map_cons, SV.IsL]; exact ⟨_, _, rfl, hg x, ev_list hg l⟩
theorem evCs_sound : ∀ {ks : List CK} {xs ys : List SV} {us vs : List Value} {K : Bool → Prop}, evCs ks xs ys K → SV.IsL r xs us → SV.IsL r ys vs → ∃ b, K b ∧ EqC ks us vs b := by
  intro ks
  induction ks with
  | nil =>
    intro xs ys us vs K h hx hy
    unfold evCs at h
    split at h
    case h_1 =>
      simp only [SV.IsL] at hx hy
      subst hx hy
      exact ⟨true, h, rfl, rfl, rfl⟩
    case h_5 => exact h.elim
    all_goals exact absurd ‹([] : List CK) = _› (by simp)
  | cons k ks ih =>
    intro xs ys us vs K h hx hy
    unfold evCs at h
    split at h
    case h_1 => exact absurd ‹_ = ([] : List CK)› (by simp)
    case h_2 =>
      have heq := ‹(k :: ks : List CK) = _›
      injection heq with e1 e2
      subst e1 e2
      simp only [SV.IsL, SV.Is] at hx hy
      obtain ⟨u, us', rfl, rfl, hx⟩ := hx
      obtain ⟨v, vs', rfl, rfl, hy⟩ := hy
      obtain ⟨rfl, h⟩ := h
      obtain ⟨b, hb, he⟩ := ih h hx hy
      exact ⟨_, hb, _, _, _, _, _, b, rfl, rfl, rfl, he, _, _, _, rfl, rfl, rfl⟩
    case h_3 =>
      have heq := ‹(k :: ks : List CK) = _›
      injection heq with e1 e2
      subst e1 e2
      simp only [SV.IsL, SV.Is] at hx hy
      obtain ⟨u, us', rfl, rfl, hx⟩ := hx
      obtain ⟨v, vs', rfl, rfl, hy⟩ := hy
      obtain ⟨b, hb, he⟩ := ih h hx hy
      exact ⟨_, hb, _, _, _, _, _, b, rfl, rfl, rfl, he, _, _, rfl, rfl, rfl⟩
    case h_4 =>
      have heq := ‹(k :: ks : List CK) = _›
      injection heq with e1 e2
      subst e1 e2
      simp only [SV.IsL, SV.Is] at hx hy
      obtain ⟨u, us', rfl, rfl, hx⟩ := hx
      obtain ⟨v, vs', rfl, rfl, hy⟩ := hy
      obtain ⟨b, hb, he⟩ := ih h hx hy
      exact ⟨_, hb, _, _, _, _, _, b, rfl, rfl, rfl, he, _, _, rfl, rfl, rfl⟩
    case h_5 => exact h.elim
theorem evEqs_sound {op : BinOp} {xs ys : List SV} {us vs : List Value} {K : SV → Prop} {t : TypeId} {ks : List CK} (hop : op = .eql ∨ op = .neq) (hwide : ∀ l, valOf P t l = .agg l.toArray) (hgd : P.eqGuardType P.depth t = false) (hk : flatK P 20 t = some ks)
    (h : evCs ks xs ys fun b => K (.v (.bool (bif isNeq op then !b else b)))) (hx : SV.IsL r xs us) (hy : SV.IsL r ys vs) (X Y : Operand) :
    ∃ s z, K s ∧ s.Is r z ∧ ∀ W, (do eqGuard op t X Y (.agg us.toArray) (.agg vs.toArray); binOp op t (.agg us.toArray) (.agg vs.toArray)).run P W = .ok z W := by
  obtain ⟨b, hb, he⟩ := evCs_sound h hx hy
  refine ⟨_, _, hb, by simp only [SV.Is]; rfl, fun W => ?_⟩
  have hq := eq_flat 20 hk he (9999 + 1) (by omega) W
  rw [hwide, hwide] at hq
  have h2 := run_eq (P := P) (t := t) (b := b) (W := W) (by simp) (by simp) (by simp) (by simp) hq
  rcases hop with rfl | rfl
  · simp only [eqGuard, Sem.run_bind, run_program, Result.andThen_ok, hgd]
    simpa [isNeq, hgd] using h2.1
  · simp only [eqGuard, Sem.run_bind, run_program, Result.andThen_ok, hgd]
    simpa [isNeq, hgd] using h2.2
theorem evMx_sound (big : Bool) : ∀ {l : List SV} {us : List Value} {k : IntKind} {a : Int} {K : SV → Prop}, evMx big (.v (.int k a)) l K → SV.IsL r l us → ∃ s u, K s ∧ s.Is r u ∧ ∀ W, (us.foldlM (bif big then Builtin.max2 else Builtin.min2) (.int k a)).run P W = .ok u W
  | [], us, k, a, K, h, hl => by
    simp only [evMx] at h
    simp only [SV.IsL] at hl
    subst hl
    exact ⟨_, _, h, by simp only [SV.Is]; rfl, fun W => by simp⟩
  | c :: l, us, k, a, K, h, hl => by
    simp only [SV.IsL] at hl
    obtain ⟨x, y, rfl, hc, hl⟩ := hl
    unfold evMx at h
    split at h
    · rename_i heq; cases heq
    · rename_i k1 a1 k2 b l' h1 h2
      cases h1
      cases h2
      simp only [SV.Is] at hc
      subst hc
      obtain ⟨s, u, g1, g2, g3⟩ := evMx_sound big h hl
      refine ⟨s, u, g1, g2, fun W => ?_⟩
      rw [List.foldlM_cons]
      cases big
      · simp only [cond_false] at g3 ⊢
        simp only [Builtin.min2, Sem.run_bind, Sem.run_pure, Result.andThen_ok]
        exact g3 W
      · simp only [cond_true] at g3 ⊢
        simp only [Builtin.max2, Sem.run_bind, Sem.run_pure, Result.andThen_ok]
        exact g3 W
    · exact h.elim
theorem evBd_sound (hg : ∀ x, ((XO.of x).get e).Is r (a.eval x)) {d : Nat} {x : Option Operand} {K : Nat → Prop} (h : evBd d ((x.map XO.of).map (XO.get e)) K) :
    ∃ j, K j ∧ ((x = none ∧ j = d) ∨ ∃ v k i, x = some v ∧ a.eval v = .int k i ∧ 0 ≤ i ∧ j = i.toNat) := by
  cases x with
  | none => exact ⟨d, h, .inl ⟨rfl, rfl⟩⟩
  | some v =>
    have hv := hg v
    simp only [Option.map_some, evBd] at h
    split at h
    · rename_i heq; cases heq
    · rename_i k i heq
      injection heq with heq
      rw [heq] at hv
      simp only [SV.Is] at hv
      exact ⟨_, h.2, .inr ⟨v, _, _, rfl, hv, h.1, rfl⟩⟩
    · exact h.elim
theorem run_bound {k : IntKind} {i : Int} {y : Nat} {c : BoundsCode} (h0 : 0 ≤ i) (h1 : i.toNat ≤ y) (W : World) : (Instr.sliceBound (.int k i) y c).run P W = .ok i.toNat W := by
  have : i ≤ (y : Int) := by omega
  simp [Instr.sliceBound, asIntOf, h0, this]
theorem run_bounds {s : Bool} {len cap l h : Nat} {lo hi : Option Operand} {ev : Operand → Value} (hh : (hi = none ∧ h = len) ∨ ∃ v k i, hi = some v ∧ ev v = .int k i ∧ 0 ≤ i ∧ h = i.toNat) (hl : (lo = none ∧ l = 0) ∨ ∃ v k i, lo = some v ∧ ev v = .int k i ∧ 0 ≤ i ∧ l = i.toNat)
    (h1 : l ≤ h) (h2 : h ≤ cap) (W : World) : (Instr.sliceBounds s len cap (lo.map ev) (hi.map ev) none).run P W = .ok (l, h, cap) W := by
  rcases hh with ⟨rfl, rfl⟩ | ⟨v, k, i, rfl, hv, h0, rfl⟩ <;> rcases hl with ⟨rfl, rfl⟩ | ⟨v2, k2, i2, rfl, hv2, h02, rfl⟩
  · simp [Instr.sliceBounds]
  · simp only [Instr.sliceBounds, Option.map_some, Option.map_none, hv2, Sem.run_bind, Sem.run_pure, Result.andThen_ok, run_bound h02 h1]
  · simp only [Instr.sliceBounds, Option.map_some, Option.map_none, hv, Sem.run_bind, Sem.run_pure, Result.andThen_ok, run_bound h0 h2]
  · simp only [Instr.sliceBounds, Option.map_some, hv, hv2, Sem.run_bind, Sem.run_pure, Result.andThen_ok, run_bound h0 h2, run_bound h02 h1]
theorem fieldPlace_run (b o : Nat) (f : Field) (W : World) {i : TypeInfo} (hi : P.info? f.type = some i) (h0 : i.size ≠ 0) : (fieldPlace ⟨b, o, none⟩ f).run P W = .ok ⟨b, o + f.offset, none⟩ W := by
  simp [fieldPlace, Addr.add_lit, sizeOf, typeInfo, hi, h0]
theorem ok_value {x : Sem Value} {W : World} {u : Value} (h : x.run P W = .ok u W) : (do pure (Next.value (← x)) : Sem Next).run P W = .ok (.value u) W := by simp [h]
theorem mapM_at {α β : Type} {f : α → Option β} : ∀ {l : List α} {us : List β}, l.mapM f = some us → us.length = l.length ∧ ∀ (i : Nat) (x : α), l[i]? = some x → ∃ u, us[i]? = some u ∧ f x = some u
  | [], us, h => by simp at h; subst h; simp
  | x :: l, us, h => by
    rw [List.mapM_cons] at h
    simp only [Option.bind_eq_bind, Option.pure_def] at h
    obtain ⟨u, h1, h⟩ := Option.bind_eq_some_iff.1 h
    obtain ⟨vs, h2, h⟩ := Option.bind_eq_some_iff.1 h
    injection h with h; subst h
    obtain ⟨h3, h4⟩ := mapM_at h2
    refine ⟨by simp [h3], fun i y hy => ?_⟩
    cases i with
    | zero => simp at hy; subst hy; exact ⟨u, rfl, h1⟩
    | succ i => simpa using h4 i y (by simpa using hy)
theorem inpL_some [Inp] {p : Option Addr} {k : Nat} {us : List Value} (h : inpL p k = some us) : us.length = k ∧ (k ≠ 0 → ∃ a, p = some a ∧ a.spot = none ∧ ∀ (j : Nat) (u : Value), us[j]? = some u → Inp.at_ (a.add j) = some u) := by
  unfold inpL at h
  split at h
  · rename_i hk
    injection h with h; subst h
    exact ⟨hk.symm, fun hh => (hh hk).elim⟩
  · rename_i hk
    split at h
    · rename_i a
      split at h
      · rename_i hsp
        obtain ⟨h1, h2⟩ := mapM_at h
        simp only [List.length_range] at h1
        refine ⟨h1, fun _ => ⟨a, rfl, hsp, fun j u hj => ?_⟩⟩
        have hlt : j < k := by rw [← h1]; exact (List.getElem?_eq_some_iff.1 hj).1
        obtain ⟨v, h3, h4⟩ := h2 j j (by simp [hlt])
        rw [hj] at h3; injection h3 with h3; subst h3
        exact h4
      · cases h
    · cases h
theorem add_zero_addr (a : Addr) : a.add 0 = a := by simp [Addr.add]
theorem add_add_addr {a : Addr} (h : a.spot = none) (i j : Nat) : (a.add i).add j = a.add (i + j) := by
  obtain ⟨b, o, sp⟩ := a
  simp only at h; subst h
  rw [Addr.add_lit, Addr.add_lit, Addr.add_lit, Nat.add_assoc]
/-- What is read of the input. -/
theorem inp_load [Inp] {base : Nat → Prop} {w0 W : World} (hst : St base w0 r m W) {t : TypeId} {z : Option Nat} {p : Option Addr} {K : SV → Prop} (hz : szOf P t = some z) (h : evInp p z K) :
    ∃ s u, K s ∧ s.Is r u ∧ ∀ W' : World, Same r W W' → (Instr.loadAt t (.pointer p)).run P W' = .ok u W' := by
  have key : ∀ (a : Addr) (us : List Value), (∀ (j : Nat) (u : Value), us[j]? = some u → Inp.at_ (a.add j) = some u) → ∀ W', Same r W W' → ∀ (j : Nat) (u : Value), us[j]? = some u → W'.cell? (a.add j) = some u :=
    fun a us hin W' hS j u hj => hS.2 _ _ (hin j u hj) (hst.inp_at (hin j u hj))
  cases z with
  | none =>
    obtain ⟨d, hd, hda⟩ := szOf_one hz
    simp only [evInp] at h
    split at h
    · rename_i us hus
      obtain ⟨hl, hin⟩ := inpL_some hus
      obtain ⟨a, rfl, hsp, hin⟩ := hin (by omega)
      split at h
      · rename_i u rest _
        refine ⟨_, u, h, by simp only [SV.Is], fun W' hS => ?_⟩
        have hc := key a _ hin W' hS 0 u rfl
        rw [add_zero_addr] at hc
        simp [Instr.loadAt, Instr.sureAddr, loadVar, run_isAgg (P := P) hd, hda, hc]
      · exact h.elim
    · exact h.elim
  | some k =>
    obtain ⟨d, i, hd, hda, hi, hk⟩ := szOf_agg hz
    simp only [evInp] at h
    obtain ⟨hp, h⟩ := h
    obtain ⟨a, rfl⟩ := Option.isSome_iff_exists.1 hp
    split at h
    · rename_i us hus
      obtain ⟨hl, hin⟩ := inpL_some hus
      refine ⟨_, .agg us.toArray, h, by simp only [SV.Is]; exact ⟨us, rfl, IsL_v us⟩, fun W' hS => ?_⟩
      have := run_loadCells_list (P := P) W' a us (fun j u hj => by
        have hk0 : k ≠ 0 := by
          intro h0
          rw [h0] at hl
          have := (List.getElem?_eq_some_iff.1 hj).1
          omega
        obtain ⟨a', ha, _, hin⟩ := hin hk0
        injection ha with ha; subst ha
        exact key a us hin W' hS j u hj)
      rw [hl] at this
      simp [Instr.loadAt, Instr.sureAddr, loadVar, run_isAgg (P := P) hd, hda, sizeOf, typeInfo, hi, hk, this]
    · exact h.elim
theorem bytesV_is : ∀ {l : List SV} {us : List Value} {bs : List UInt8}, bytesV l = some bs → SV.IsL r l us → ∃ ns : List Int, us = ns.map (.int .u8) ∧ bs = ns.map fun n => UInt8.ofNat n.toNat
  | [], us, bs, h, hs => by
    simp only [bytesV] at h
    injection h with h; subst h
    simp only [SV.IsL] at hs; subst hs
    exact ⟨[], rfl, rfl⟩
  | s :: l, us, bs, h, hs => by
    simp only [SV.IsL] at hs
    obtain ⟨u, t, rfl, h1, h2⟩ := hs
    unfold bytesV at h
    split at h
    · rename_i heq; cases heq
    · rename_i n l' heq
      cases heq
      obtain ⟨bs', h3, rfl⟩ := Option.map_eq_some_iff.1 h
      obtain ⟨ns, rfl, rfl⟩ := bytesV_is h3 h2
      simp only [SV.Is] at h1
      exact ⟨n :: ns, by simp [h1], by simp⟩
    · cases h
theorem foldl_push : ∀ (ns : List Int) (b : ByteArray), (ns.foldl (fun r n => r.push (UInt8.ofNat n.toNat)) b) = ⟨b.data ++ (ns.map fun n => UInt8.ofNat n.toNat).toArray⟩
  | [], b => by simp
  | n :: ns, b => by
    rw [List.foldl_cons, foldl_push ns]
    congr 1
    apply Array.ext'
    simp [ByteArray.push]
/-- What a slice holds, in whatever world that has it. -/
theorem sl_cells [Inp] {base : Nat → Prop} {w0 W : World} (hst : St base w0 r m W) {s : SV} {z k : Nat} {xs : List SV} {u : Value} (h : slOf m z s = some (k, xs)) (hs : s.Is r u) :
    ∃ p c us, u = .slice p k c ∧ SV.IsL r xs us ∧ us.length = xs.length ∧ ((∃ a, p = some a ∧ ∀ W', Same r W W' → ∀ (j : Nat) (v : Value), us[j]? = some v → W'.cell? (a.add j) = some v) ∨ (p = none ∧ us = [])) := by
  unfold slOf at h
  split at h
  · rename_i kk o n1 sz
    simp only [SV.Is] at hs
    obtain ⟨l, cap, hl, hcap, hroom, rfl⟩ := hs
    split at h
    · split at h
      · rename_i ob hob
        split at h
        · rename_i hfit
          injection h with h
          injection h with h1 h2
          subst h1
          obtain ⟨us, hus, hW⟩ := obj_cells' (hst.obj kk l ob hl hob)
          have hxs : SV.IsL r xs ((us.drop o).take (n1 * sz)) := by rw [← h2]; exact IsL_take _ (IsL_drop _ hus)
          refine ⟨_, cap, _, rfl, hxs, IsL_len hxs, .inl ⟨_, rfl, fun W' hS j v hj => ?_⟩⟩
          have g2 := hW W' (hst.sblk hS hl)
          rw [Addr.add_lit]
          have := take_drop_get us o _ j v hj
          rw [Nat.add_assoc]; exact g2 _ _ this
        · cases h
      · cases h
    · cases h
  · rename_i p n1 c
    obtain ⟨us, hus, h⟩ := Option.map_eq_some_iff.1 h
    injection h with h1 h2
    subst h1; subst h2
    simp only [SV.Is] at hs
    subst hs
    obtain ⟨hl, hin⟩ := inpL_some hus
    refine ⟨p, c, us, rfl, IsL_v us, by simp, ?_⟩
    by_cases hk : n1 * z = 0
    · rw [hk] at hl
      have hus0 := List.length_eq_zero_iff.1 hl
      subst hus0
      cases p with
      | none => exact .inr ⟨rfl, rfl⟩
      | some a => exact .inl ⟨a, rfl, fun W' _ j v hj => by simp at hj⟩
    · obtain ⟨a, rfl, hsp, hin⟩ := hin hk
      exact .inl ⟨a, rfl, fun W' hS j v hj => hS.2 _ _ (hin j v hj) (hst.inp_at (hin j v hj))⟩
  · injection h with h
    injection h with h1 h2
    subst h1; subst h2
    simp only [SV.Is] at hs
    obtain ⟨p, c, hs, _⟩ := hs
    exact ⟨some p, c, [], hs, by simp [SV.IsL], rfl, .inl ⟨p, rfl, fun W' _ j v hj => by simp at hj⟩⟩
  · injection h with h
    injection h with h1 h2
    subst h1; subst h2
    simp only [SV.Is] at hs
    obtain ⟨p, hs, _⟩ := hs
    refine ⟨p, 0, [], hs, by simp [SV.IsL], rfl, ?_⟩
    cases p with
    | none => exact .inr ⟨rfl, rfl⟩
    | some p => exact .inl ⟨p, rfl, fun W' _ j v hj => by simp at hj⟩
  · cases h
/-- What a map holds. -/
theorem keq_ok {kt : KT} {a b : Value} (ha : Go.MapKept.IsKey kt.desc a) (hb : Go.MapKept.IsKey kt.desc b) : Instr.sameNow kt.desc a b = some (keq a b) := by
  obtain ⟨x, h1, h2⟩ := Go.MapKept.sameNow_of_keys ha hb
  rw [h1]
  cases kt <;> cases a <;> cases b <;> simp_all [Go.MapKept.IsKey, KT.desc, keq, Instr.sameNow]
theorem isK_ok {kt : KT} {v : Value} (h : isK kt v = true) : Go.MapKept.IsKey kt.desc v := by
  unfold isK at h
  split at h
  · simpa [KT.desc, Go.MapKept.IsKey] using h
  · trivial
  · trivial
  · cases h
theorem ktOf_ok {t : TypeId} {kt : KT} (h : ktOf P t = some kt) : P.underlying t = some kt.desc := by
  unfold ktOf at h
  split at h
  · rename_i hu; injection h with h; subst h; exact hu
  · rename_i hu; injection h with h; subst h; exact hu
  · rename_i hu; injection h with h; subst h; exact hu
  · cases h
theorem find_ok {kt : KT} {key : Value} (hk : Go.MapKept.IsKey kt.desc key) : ∀ {n : Nat} {ps : List (Value × SV)} {es : List MapEntry}, MapIs r kt.desc n ps es →
    (findM key n ps = none ∧ Instr.findNow kt.desc key es n = some none) ∨ ∃ j s u, findM key n ps = some (j, s) ∧ Instr.findNow kt.desc key es n = some (some (j, u)) ∧ s.Is r u
  | n, [], es, h => by
    simp only [MapIs] at h
    subst h
    exact .inl ⟨rfl, rfl⟩
  | n, p :: ps, es, h => by
    obtain ⟨e, t, rfl, h1, h2, h3, h4, h5⟩ := h
    have he := keq_ok hk h4
    unfold findM Instr.findNow
    rw [he, ← h1]
    cases hq : keq key p.1 with
    | true => exact .inr ⟨n, p.2, e.val, rfl, rfl, h2⟩
    | false =>
      simp only [cond_false]
      exact find_ok hk h5
theorem mapOb_ok {base : Nat → Prop} {W : World} {l : Loc} {ob : SObj} {kt : KT} {ps : List (Value × SV)} (h : ObjAt base r W l ob) (hm : mapOb kt ob = some ps) : ∃ es, W.heap[l.blk]? = some (.map es ps.length) ∧ MapIs r kt.desc 0 ps es.toList ∧ l.room = 0 := by
  have h1 := h.ext
  unfold mapOb at hm
  unfold ExtIs at h1
  split at hm
  · rename_i kt' es he
    simp only [he] at h1
    split at hm
    · rename_i hkt
      subst hkt
      injection hm with hm; subst hm
      obtain ⟨⟨_, h0, _⟩, es, h2, h3⟩ := h1
      exact ⟨es, h2, h3, h0⟩
    · cases hm
  · cases hm
theorem MapIs.len {d : TypeDesc} : ∀ {n : Nat} {ps : List (Value × SV)} {es : List MapEntry}, MapIs r d n ps es → es.length = ps.length
  | n, [], es, h => by simp only [MapIs] at h; subst h; rfl
  | n, p :: ps, es, h => by
    obtain ⟨e, t, rfl, _, _, _, _, h5⟩ := h
    simp [h5.len]
/-- What an operation that only looks comes to. -/
theorem compA_sound [Inp] {o : Oper} {xa : XA} {K : SV → Prop} {base : Nat → Prop} {w0 W : World} (hc : compA P o.op = some xa) (h : evA xa e m K) (hst : St base w0 r m W) (he : EnvIs n r e a.tmps) :
    ∃ s u, K s ∧ s.Is r u ∧ Den P o xa.mem r W a.eval u := by
  have hg := he.get
  obtain ⟨dst, op, type, pos, after, guard⟩ := o
  dsimp only at hc
  unfold compA at hc
  split at hc
  case h_1 x => 
    injection hc with hc; subst hc
    exact ⟨_, _, h, hg x, fun W' _ => rfl⟩
  case h_2 x => 
    injection hc with hc; subst hc
    exact ⟨_, _, h, hg x, fun W' _ => rfl⟩
  case h_3 c x y =>
    injection hc with hc; subst hc
    simp only [evA] at h
    have h1 := hg c
    split at h
    · rename_i t ht
      rw [ht] at h1
      simp only [SV.Is] at h1
      cases t
      · rw [if_neg (by simp)] at h
        exact ⟨_, _, h, hg y, fun W' _ => by simp [execOp, h1, asBool]⟩
      · rw [if_pos rfl] at h
        exact ⟨_, _, h, hg x, fun W' _ => by simp [execOp, h1, asBool]⟩
    · exact h.elim
  case h_4 op t x y yt =>
    have key : ∀ (s : SV) (z : Value), K s → s.Is r z → (∀ W, (do eqGuard op t x y (a.eval x) (a.eval y); binOp op t (a.eval x) (a.eval y)).run P W = .ok z W) → ∃ s u, K s ∧ s.Is r u ∧ Den P ⟨dst, .binOp op t x y yt, type, pos, after, guard⟩ xa.mem r W a.eval u :=
      fun s z h1 h2 h3 => ⟨s, z, h1, h2, fun W' _ => ok_value (h3 W')⟩
    have hx := hg x
    have hy := hg y
    have aggs : (op = .eql ∨ op = .neq) → (∀ l, valOf P t l = .agg l.toArray) → (if P.eqGuardType P.depth t = true then none else (flatK P 20 t).map fun ks => XA.eqs (isNeq op) ks (XO.of x) (XO.of y)) = some xa → ∃ s u, K s ∧ s.Is r u ∧ Den P ⟨dst, .binOp op t x y yt, type, pos, after, guard⟩ xa.mem r W a.eval u := by
      intro hop hwide hc
      split at hc
      · cases hc
      rename_i hgd
      obtain ⟨ks, hks, hc⟩ := Option.map_eq_some_iff.1 hc
      subst hc
      simp only [evA] at h
      split at h
      · rename_i xs ys hb1 hb2
        rw [hb1] at hx
        rw [hb2] at hy
        simp only [SV.Is] at hx hy
        obtain ⟨us, hu, hus⟩ := hx
        obtain ⟨vs, hv, hvs⟩ := hy
        obtain ⟨s, z, h1, h2, h3⟩ := evEqs_sound (P := P) hop hwide (by simpa using hgd) hks h hus hvs x y
        exact key s z h1 h2 (fun W => by rw [hu, hv]; exact h3 W)
      · exact h.elim
    split at hc
    · split at hc
      · injection hc with hc; subst hc
        obtain ⟨s, z, h1, h2, h3⟩ := evBin_sound (P := P) t h hx hy x y
        exact key s z h1 h2 h3
      · injection hc with hc; subst hc
        obtain ⟨s, z, h1, h2, h3⟩ := evBin_sound (P := P) t h hx hy x y
        exact key s z h1 h2 h3
      · rename_i hu; injection hc with hc; subst hc
        obtain ⟨s, z, h1, h2, h3⟩ := evEqb_sound (P := P) (.inl rfl) hu h hx hy x y
        exact key s z h1 h2 h3
      · rename_i e' hu; injection hc with hc; subst hc
        obtain ⟨s, z, h1, h2, h3⟩ := evEqn_sound (P := P) (.inl rfl) (.inl ⟨rfl, _, hu⟩) h hx hy x y
        exact key s z h1 h2 h3
      · rename_i e' hu; injection hc with hc; subst hc
        obtain ⟨s, z, h1, h2, h3⟩ := evEqn_sound (P := P) (.inl rfl) (.inr (.inl ⟨rfl, _, hu⟩)) h hx hy x y
        exact key s z h1 h2 h3
      · rename_i e1 e2 e3 hu; injection hc with hc; subst hc
        obtain ⟨s, z, h1, h2, h3⟩ := evEqn_sound (P := P) (.inl rfl) (.inr (.inr ⟨rfl, _, _, _, hu⟩)) h hx hy x y
        exact key s z h1 h2 h3
      · rename_i fs hu
        exact aggs (.inl rfl) (fun l => by unfold valOf; rw [hu]) hc
      · rename_i n1 e1 hu
        exact aggs (.inl rfl) (fun l => by unfold valOf; rw [hu]) hc
      · cases hc
    · split at hc
      · injection hc with hc; subst hc
        obtain ⟨s, z, h1, h2, h3⟩ := evBin_sound (P := P) t h hx hy x y
        exact key s z h1 h2 h3
      · injection hc with hc; subst hc
        obtain ⟨s, z, h1, h2, h3⟩ := evBin_sound (P := P) t h hx hy x y
        exact key s z h1 h2 h3
      · rename_i hu; injection hc with hc; subst hc
        obtain ⟨s, z, h1, h2, h3⟩ := evEqb_sound (P := P) (.inr rfl) hu h hx hy x y
        exact key s z h1 h2 h3
      · rename_i e' hu; injection hc with hc; subst hc
        obtain ⟨s, z, h1, h2, h3⟩ := evEqn_sound (P := P) (.inr rfl) (.inl ⟨rfl, _, hu⟩) h hx hy x y
        exact key s z h1 h2 h3
      · rename_i e' hu; injection hc with hc; subst hc
        obtain ⟨s, z, h1, h2, h3⟩ := evEqn_sound (P := P) (.inr rfl) (.inr (.inl ⟨rfl, _, hu⟩)) h hx hy x y
        exact key s z h1 h2 h3
      · rename_i e1 e2 e3 hu; injection hc with hc; subst hc
        obtain ⟨s, z, h1, h2, h3⟩ := evEqn_sound (P := P) (.inr rfl) (.inr (.inr ⟨rfl, _, _, _, hu⟩)) h hx hy x y
        exact key s z h1 h2 h3
      · rename_i fs hu
        exact aggs (.inr rfl) (fun l => by unfold valOf; rw [hu]) hc
      · rename_i n1 e1 hu
        exact aggs (.inr rfl) (fun l => by unfold valOf; rw [hu]) hc
      · cases hc
    · injection hc with hc; subst hc
      obtain ⟨s, z, h1, h2, h3⟩ := evBin_sound (P := P) t h hx hy x y
      exact key s z h1 h2 h3
  case h_5 op t x =>
    injection hc with hc; subst hc
    simp only [evA] at h
    have h1 := hg x
    unfold evUn at h
    split at h
    · rename_i b hb
      rw [hb] at h1; simp only [SV.Is] at h1
      exact ⟨_, _, h, by simp only [SV.Is]; rfl, fun W' _ => ok_value (by rw [h1]; simp [Op.unary])⟩
    · rename_i k i hb
      rw [hb] at h1; simp only [SV.Is] at h1
      exact ⟨_, _, h, by simp only [SV.Is]; rfl, fun W' _ => ok_value (by rw [h1]; simp [Op.unary, Op.intArith])⟩
    · rename_i k i hb
      rw [hb] at h1; simp only [SV.Is] at h1
      exact ⟨_, _, h, by simp only [SV.Is]; rfl, fun W' _ => ok_value (by rw [h1]; simp [Op.unary, Op.intBits])⟩
    · exact h.elim
  case h_6 s d x =>
    split at hc
    · rename_i k k' hs hd; injection hc with hc; subst hc
      simp only [evA] at h
      have h1 := hg x
      split at h
      · rename_i k2 i hb
        rw [hb] at h1; simp only [SV.Is] at h1
        exact ⟨_, _, h, by simp only [SV.Is]; rfl, fun W' _ => ok_value (by rw [h1]; simp [convert, run_underlying hs, run_underlying hd, Conv.intToInt])⟩
      · exact h.elim
    · rename_i hs hd; injection hc with hc; subst hc
      simp only [evA] at h
      have h1 := hg x
      split at h
      · rename_i str hb
        rw [hb] at h1; simp only [SV.Is] at h1
        exact ⟨_, _, h, by simp only [SV.Is]; rfl, fun W' _ => ok_value (by rw [h1]; simp [convert, run_underlying hs, run_underlying hd])⟩
      · exact h.elim
    · rename_i el hs hd
      split at hc
      · rename_i hel
        injection hc with hc; subst hc
        simp only [evA, evB2s] at h
        split at h
        · rename_i x2 hsl
          obtain ⟨k, xs⟩ := x2
          simp only at h
          split at h
          · rename_i bs hbs
            obtain ⟨p, c, us, hu, hus, hlen, hcell⟩ := sl_cells hst hsl (hg x)
            obtain ⟨ns, rfl, rfl⟩ := bytesV_is hbs hus
            refine ⟨_, _, h, by simp only [SV.Is]; rfl, fun W' hS => ok_value ?_⟩
            rw [hu, run_convert_bytes_string W' s d el _ _ _ hs hel hd]
            have hxl : xs.length = k := by
              unfold slOf at hsl
              split at hsl
              · rename_i kk o n1 sz _
                split at hsl
                · rename_i hsz
                  split at hsl
                  · rename_i ob hob
                    split at hsl
                    · rename_i hfit
                      injection hsl with hsl; injection hsl with h1 h2
                      rw [← h2, ← h1]; subst hsz; simp at hfit ⊢; omega
                    · cases hsl
                  · cases hsl
                · cases hsl
              · obtain ⟨us2, hus2, hsl⟩ := Option.map_eq_some_iff.1 hsl
                injection hsl with h1 h2
                rw [← h2, ← h1]; simp [(inpL_some hus2).1]
              · injection hsl with hsl; injection hsl with h1 h2
                rw [← h2, ← h1]; rfl
              · injection hsl with hsl; injection hsl with h1 h2
                rw [← h2, ← h1]; rfl
              · cases hsl
            rcases hcell with ⟨a1, rfl, hcell⟩ | ⟨rfl, hnil⟩
            · have hld := run_loadCells_list (P := P) W' a1 _ (hcell W' (hS rfl))
              rw [hlen, hxl] at hld
              have hrun := run_bytesToString (P := P) W' a1 k c ns hld
              rw [hrun, foldl_push]
              simp [strOf, ByteArray.empty, ByteArray.emptyWithCapacity]
              try rfl
            · have : ns = [] := by simpa using hnil
              subst this
              simp [Conv.bytesToString, strOf]
              rfl
          · exact h.elim
        · exact h.elim
      · cases hc
    · cases hc
  case h_7 s x f =>
    split at hc
    · rename_i fs hs
      obtain ⟨fd, hfd, hc⟩ := Option.bind_eq_some_iff.1 hc
      obtain ⟨i, hi, hc⟩ := Option.bind_eq_some_iff.1 hc
      split at hc
      · cases hc
      rename_i h0
      injection hc with hc
      subst hc
      simp only [evA] at h
      have h1 := hg x
      split at h
      · rename_i k o hb
        rw [hb] at h1; simp only [SV.Is] at h1
        obtain ⟨l, hl, hu⟩ := h1
        refine ⟨_, _, h, by simp only [SV.Is]; exact ⟨l, hl, rfl⟩, fun W' _ => ok_value ?_⟩
        rw [hu]
        simp [Instr.fieldAt, run_underlying hs, hfd, Instr.sureAddr, fieldPlace_run _ _ _ _ hi h0, Nat.add_assoc]
      · rename_i p hb
        rw [hb] at h1; simp only [SV.Is] at h1
        obtain ⟨hp, h⟩ := h
        obtain ⟨a1, rfl⟩ := Option.isSome_iff_exists.1 hp
        refine ⟨_, _, h, by simp only [SV.Is]; rfl, fun W' _ => ok_value ?_⟩
        rw [h1]
        simp [Instr.fieldAt, run_underlying hs, hfd, Instr.sureAddr, fieldPlace, sizeOf, typeInfo, hi, h0, plusA]
      · exact h.elim
    · cases hc
  case h_8 s x f =>
    split at hc
    · rename_i fs hs
      obtain ⟨fd, hfd, hc⟩ := Option.bind_eq_some_iff.1 hc
      obtain ⟨z, hz, hc⟩ := Option.map_eq_some_iff.1 hc
      subst hc
      simp only [evA] at h
      have h1 := hg x
      split at h
      · rename_i cs hb
        rw [hb] at h1; simp only [SV.Is] at h1
        obtain ⟨us, hu, hus⟩ := h1
        obtain ⟨s2, u, h2, h3, h4⟩ := evPart_sound (P := P) hz h hus
        refine ⟨s2, u, h2, h3, fun W' _ => ok_value ?_⟩
        rw [hu]
        simp [Instr.field, run_underlying hs, hfd, asAgg, h4]
      · exact h.elim
    · cases hc
  case h_9 t x i =>
    have hx := hg x
    have hi := hg i
    split at hc
    · rename_i n1 e1 hs
      obtain ⟨j, hj, hc⟩ := Option.map_eq_some_iff.1 hc
      subst hc
      simp only [evA] at h
      split at h
      · rename_i k o k2 q hb hb2
        rw [hb] at hx; rw [hb2] at hi
        simp only [SV.Is] at hx hi
        obtain ⟨l, hl, hu⟩ := hx
        refine ⟨_, _, h.2, by simp only [SV.Is]; exact ⟨l, hl, rfl⟩, fun W' _ => ok_value ?_⟩
        rw [hu, hi]
        simp [Instr.indexAt, run_underlying hs, asIntOf, Instr.sureAddr, sizeOf, typeInfo, hj, h.1.1, h.1.2, Addr.add_lit, Nat.add_assoc]
      · rename_i p k2 q hb hb2
        rw [hb] at hx; rw [hb2] at hi
        simp only [SV.Is] at hx hi
        obtain ⟨⟨q1, q2, hp⟩, h⟩ := h
        obtain ⟨a1, rfl⟩ := Option.isSome_iff_exists.1 hp
        refine ⟨_, _, h, by simp only [SV.Is]; rfl, fun W' _ => ok_value ?_⟩
        rw [hx, hi]
        simp [Instr.indexAt, run_underlying hs, asIntOf, Instr.sureAddr, sizeOf, typeInfo, hj, q1, q2, plusA]
      · exact h.elim
    · rename_i e1 hs
      obtain ⟨j, hj, hc⟩ := Option.map_eq_some_iff.1 hc
      subst hc
      simp only [evA] at h
      split at h
      · rename_i k o n2 s2 k2 q hb hb2
        rw [hb] at hx; rw [hb2] at hi
        simp only [SV.Is] at hx hi
        obtain ⟨l, cap, hl, _, _, hu⟩ := hx
        refine ⟨_, _, h.2, by simp only [SV.Is]; exact ⟨l, hl, rfl⟩, fun W' _ => ok_value ?_⟩
        rw [hu, hi]
        simp [Instr.indexAt, run_underlying hs, asIntOf, Instr.sureAddr, sizeOf, typeInfo, hj, h.1.1, h.1.2, Addr.add_lit, Nat.add_assoc]
      · rename_i p n2 c2 k2 q hb hb2
        rw [hb] at hx; rw [hb2] at hi
        simp only [SV.Is] at hx hi
        obtain ⟨⟨q1, q2, hp⟩, h⟩ := h
        obtain ⟨a1, rfl⟩ := Option.isSome_iff_exists.1 hp
        refine ⟨_, _, h, by simp only [SV.Is]; rfl, fun W' _ => ok_value ?_⟩
        rw [hx, hi]
        simp [Instr.indexAt, run_underlying hs, asIntOf, Instr.sureAddr, sizeOf, typeInfo, hj, q1, q2, plusA]
      · exact h.elim
    · cases hc
  case h_10 t x i =>
    have hx := hg x
    have hi := hg i
    split at hc
    · rename_i n1 e1 hs
      obtain ⟨j, hj, hc⟩ := Option.bind_eq_some_iff.1 hc
      obtain ⟨z, hz, hc⟩ := Option.map_eq_some_iff.1 hc
      subst hc
      simp only [evA] at h
      split at h
      · rename_i cs k2 q hb hb2
        rw [hb] at hx; rw [hb2] at hi
        simp only [SV.Is] at hx hi
        obtain ⟨us, hu, hus⟩ := hx
        have hz' : szOf P e1 = some (bif z.isSome then some j.size else none) := by
          cases z with
          | none => exact hz
          | some z =>
            obtain ⟨d, j2, _, _, hj2, rfl⟩ := szOf_agg hz
            rw [hj] at hj2
            injection hj2 with hj2
            subst hj2
            exact hz
        obtain ⟨s2, u, h2, h3, h4⟩ := evPart_sound (P := P) hz' h.2 hus
        refine ⟨s2, u, h2, h3, fun W' _ => ok_value ?_⟩
        rw [hu, hi]
        simp [Instr.index, run_underlying hs, asIntOf, sizeOf, typeInfo, hj, h.1.1, h.1.2, h4]
      · exact h.elim
    · rename_i hs
      injection hc with hc; subst hc
      simp only [evA] at h
      split at h
      · rename_i str k2 q hb hb2
        rw [hb] at hx; rw [hb2] at hi
        simp only [SV.Is] at hx hi
        refine ⟨_, _, h.2, by simp only [SV.Is]; rfl, fun W' _ => ok_value ?_⟩
        rw [hx, hi]
        obtain ⟨⟨q1, q2⟩, _⟩ := h
        have hlt : q.toNat < str.size := by omega
        have hget : str[q.toNat]? = some str[q.toNat] := by simp [getElem?_pos, hlt]
        simp [Instr.index, run_underlying hs, asIntOf, q1, hget]
      · exact h.elim
    · cases hc
  case h_11 x i =>
    injection hc with hc; subst hc
    simp only [evA] at h
    have h1 := hg x
    split at h
    · rename_i cs hb
      rw [hb] at h1; simp only [SV.Is] at h1
      obtain ⟨us, hu, hus⟩ := h1
      split at h
      · rename_i s hs
        obtain ⟨z, hz, hzs⟩ := IsL_get hus hs
        exact ⟨s, z, h, hzs, fun W' _ => ok_value (by rw [hu]; simp [Instr.extract, hz])⟩
      · exact h.elim
    · exact h.elim
  case h_12 t x =>
    obtain ⟨z, hz, hc⟩ := Option.map_eq_some_iff.1 hc
    subst hc
    simp only [evA] at h
    have h1 := hg x
    split at h
    · rename_i k o hb
      rw [hb] at h1; simp only [SV.Is] at h1
      obtain ⟨l, hl, hu⟩ := h1
      split at h
      · rename_i ob hob
        obtain ⟨s, z, h2, h3, h4⟩ := load_sound (k0 := k) hz h hl (hst.obj k l ob hl hob)
        exact ⟨s, z, h2, h3, fun W' hS => ok_value (by rw [hu]; exact h4 W' (hst.sblk (hS rfl) hl))⟩
      · exact h.elim
    · rename_i p hb
      rw [hb] at h1; simp only [SV.Is] at h1
      obtain ⟨s, z, h2, h3, h4⟩ := inp_load (P := P) hst hz h
      exact ⟨s, z, h2, h3, fun W' hS => ok_value (by rw [h1]; exact h4 W' (hS rfl))⟩
    · exact h.elim
  case h_13 x =>
    injection hc with hc; subst hc
    simp only [evA] at h
    have h1 := hg x
    split at h
    · rename_i k o hb
      rw [hb] at h1; simp only [SV.Is] at h1
      obtain ⟨l, hl, hu⟩ := h1
      exact ⟨_, _, h, by simp only [SV.Is]; exact ⟨l, hl, rfl⟩, fun W' _ => by simp [execOp, hu]⟩
    · rename_i f cs hb
      rw [hb] at h1; simp only [SV.Is] at h1
      obtain ⟨us, hu, hus⟩ := h1
      exact ⟨_, _, h, by simp only [SV.Is]; exact ⟨us, rfl, hus⟩, fun W' _ => by simp [execOp, hu]⟩
    · rename_i f cs hb
      rw [hb] at h1; simp only [SV.Is] at h1
      obtain ⟨us, hu, hus⟩ := h1
      exact ⟨_, _, h, by simp only [SV.Is]; exact ⟨us, rfl, hus⟩, fun W' _ => by simp [execOp, hu]⟩
    · rename_i p hb
      rw [hb] at h1; simp only [SV.Is] at h1
      obtain ⟨hp, h⟩ := h
      obtain ⟨a1, rfl⟩ := Option.isSome_iff_exists.1 hp
      exact ⟨_, .pointer (some a1), h, by simp only [SV.Is], fun W' _ => by simp [execOp, h1]⟩
    · exact h.elim
  case h_14 f first cap =>
    split at hc
    · rename_i hf
      injection hc with hc; subst hc
      simp only [evA] at h
      have hcap : ∀ l : List Operand, SV.IsL r (l.map fun x => (XO.of x).get e) (l.map a.eval) := by
        intro l
        induction l with
        | nil => simp [SV.IsL]
        | cons x l ih => simp only [List.map_cons, SV.IsL]; exact ⟨_, _, rfl, hg x, ih⟩
      refine ⟨_, .func (.func f) #[] (cap.toList.map a.eval).toArray, h, ?_, fun W' _ => ok_value ?_⟩
      · simp only [SV.Is, List.map_map]
        exact ⟨_, rfl, hcap _⟩
      · obtain rfl : first = #[] := by simpa using hf
        simp [Instr.makeFunc, ← Array.toList_map]
    · split at hc
      · rename_i hf
        injection hc with hc; subst hc
        simp only [evA] at h
        have hcap : ∀ l : List Operand, SV.IsL r (l.map fun x => (XO.of x).get e) (l.map a.eval) := by
          intro l
          induction l with
          | nil => simp [SV.IsL]
          | cons x l ih => simp only [List.map_cons, SV.IsL]; exact ⟨_, _, rfl, hg x, ih⟩
        refine ⟨_, .func (.func f) (first.toList.map a.eval).toArray #[], h, ?_, fun W' _ => ok_value ?_⟩
        · simp only [SV.Is, List.map_map]
          exact ⟨_, rfl, hcap _⟩
        · obtain rfl : cap = #[] := by simpa using hf
          simp [Instr.makeFunc, ← Array.toList_map]
      · cases hc
  case h_15 args argTypes =>
    split at hc
    · rename_i x t hax hat
      have hx := hg x
      obtain rfl : args = #[x] := by cases args; simp_all
      obtain rfl : argTypes = #[t] := by cases argTypes; simp_all
      split at hc
      · rename_i e1 hu
        injection hc with hc; subst hc
        simp only [evA] at h
        split at h
        · rename_i k o n1 s1 hb
          rw [hb] at hx; simp only [SV.Is] at hx
          obtain ⟨l, cap, hl, _, _, hv⟩ := hx
          exact ⟨_, _, h, by simp only [SV.Is]; rfl, fun W' _ => by simp [execOp, resolve, invoke, builtin, Builtin.len_, hv, run_underlying hu, goInt]⟩
        · rename_i hb
          rw [hb] at hx; simp only [SV.Is] at hx
          obtain ⟨ad, c1, hx, _⟩ := hx
          exact ⟨_, _, h, by simp only [SV.Is]; rfl, fun W' _ => by simp [execOp, resolve, invoke, builtin, Builtin.len_, hx, run_underlying hu, goInt]⟩
        · rename_i hb
          rw [hb] at hx; simp only [SV.Is] at hx
          obtain ⟨ad, hx, _⟩ := hx
          exact ⟨_, _, h, by simp only [SV.Is]; rfl, fun W' _ => by simp [execOp, resolve, invoke, builtin, Builtin.len_, hx, run_underlying hu, goInt]⟩
        · rename_i a1 n1 c1 hb
          rw [hb] at hx; simp only [SV.Is] at hx
          exact ⟨_, _, h, by simp only [SV.Is]; rfl, fun W' _ => by simp [execOp, resolve, invoke, builtin, Builtin.len_, hx, run_underlying hu, goInt]⟩
        · exact h.elim
      · rename_i hu
        injection hc with hc; subst hc
        simp only [evA] at h
        split at h
        · rename_i s1 hb
          rw [hb] at hx; simp only [SV.Is] at hx
          exact ⟨_, _, h, by simp only [SV.Is]; rfl, fun W' _ => by simp [execOp, resolve, invoke, builtin, Builtin.len_, hx, run_underlying hu, goInt]⟩
        · exact h.elim
      · rename_i n1 e1 hu
        injection hc with hc; subst hc
        simp only [evA, XO.get] at h
        exact ⟨_, _, h, by simp only [SV.Is]; rfl, fun W' _ => by simp [execOp, resolve, invoke, builtin, Builtin.len_, run_underlying hu, goInt]⟩
      · rename_i k1 e1 hu
        injection hc with hc; subst hc
        simp only [evA] at h
        split at h
        · rename_i n1 hn1
          unfold lenOf at hn1
          split at hn1
          · rename_i k hb
            rw [hb] at hx; simp only [SV.Is] at hx
            obtain ⟨l, hl, hv⟩ := hx
            split at hn1
            · rename_i ob hob
              have hO := hst.obj k l ob hl hob
              unfold lenOb at hn1
              split at hn1
              · rename_i kt es he
                injection hn1 with hn1; subst hn1
                obtain ⟨es', g1, g2, _⟩ := mapOb_ok (kt := kt) (ps := es) hO (by unfold mapOb; simp [he])
                have hlen := g2.len
                refine ⟨_, _, h, by simp only [SV.Is]; rfl, fun W' hS => ?_⟩
                have g3 := hst.sblk (hS rfl) hl
                rw [g1] at g3
                simp only [Array.length_toList] at hlen
                simp [execOp, resolve, invoke, builtin, Builtin.len_, hv, run_underlying hu, goInt, Go.MapKept.run_getObj_map g3, hlen]
              · cases hn1
            · cases hn1
          · rename_i hb
            injection hn1 with hn1; subst hn1
            rw [hb] at hx; simp only [SV.Is] at hx
            exact ⟨_, _, h, by simp only [SV.Is]; rfl, fun W' _ => by simp [execOp, resolve, invoke, builtin, Builtin.len_, hx, run_underlying hu, goInt]⟩
          · cases hn1
        · exact h.elim
      · cases hc
    · cases hc
  case h_16 args argTypes =>
    split at hc
    · rename_i x l hax
      injection hc with hc; subst hc
      simp only [evA] at h
      have hx := hg x
      split at h
      · rename_i k i hb
        rw [hb] at hx; simp only [SV.Is] at hx
        obtain ⟨s, u, h1, h2, h3⟩ := evMx_sound (P := P) true h (by rw [List.map_map]; exact ev_list hg l)
        refine ⟨s, u, h1, h2, fun W' _ => ?_⟩
        have := h3 W'
        rw [← hx] at this
        simp only [cond_true] at this
        simp only [execOp, resolve, invoke, builtin, Builtin.max_, Sem.run_bind, Sem.run_pure, Result.andThen_ok, Array.toList_map, hax, List.map_cons, this]
      · exact h.elim
    · cases hc
  case h_17 args argTypes =>
    split at hc
    · rename_i x l hax
      injection hc with hc; subst hc
      simp only [evA] at h
      have hx := hg x
      split at h
      · rename_i k i hb
        rw [hb] at hx; simp only [SV.Is] at hx
        obtain ⟨s, u, h1, h2, h3⟩ := evMx_sound (P := P) false h (by rw [List.map_map]; exact ev_list hg l)
        refine ⟨s, u, h1, h2, fun W' _ => ?_⟩
        have := h3 W'
        rw [← hx] at this
        simp only [cond_false] at this
        simp only [execOp, resolve, invoke, builtin, Builtin.min_, Sem.run_bind, Sem.run_pure, Result.andThen_ok, Array.toList_map, hax, List.map_cons, this]
      · exact h.elim
    · cases hc
  case h_18 args argTypes =>
    split at hc
    · rename_i x t hax hat
      have hx := hg x
      obtain rfl : args = #[x] := by cases args; simp_all
      obtain rfl : argTypes = #[t] := by cases argTypes; simp_all
      split at hc
      · rename_i e1 hu
        injection hc with hc; subst hc
        simp only [evA] at h
        split at h
        · rename_i a1 n1 c1 hb
          rw [hb] at hx; simp only [SV.Is] at hx
          exact ⟨_, _, h, by simp only [SV.Is]; rfl, fun W' _ => by simp [execOp, resolve, invoke, builtin, Builtin.cap_, hx, run_underlying hu, goInt]⟩
        · exact h.elim
      · cases hc
    · cases hc
  case h_19 t x i ok =>
    have hx := hg x
    have hi := hg i
    split at hc
    · rename_i kt et hu
      obtain ⟨kk, hkk, hc⟩ := Option.bind_eq_some_iff.1 hc
      obtain ⟨j, hj, hc⟩ := Option.bind_eq_some_iff.1 hc
      obtain ⟨z, hz, hc⟩ := Option.map_eq_some_iff.1 hc
      subst hc
      simp only [evA, evLook] at h
      split at h
      · rename_i ps key hps hkey
        obtain ⟨hK1, h⟩ := h
        rw [hkey] at hi; simp only [SV.Is] at hi
        have hik := isK_ok hK1
        have hun := ktOf_ok hkk
        have zrun : ∀ W' : World, (zeroValue et).run P W' = .ok z W' := fun W' => by simp [zeroValue, typeInfo, hj, hz]
        have fin : ∀ (W' : World) (es : List MapEntry), MapIs r kk.desc 0 ps es → ∃ u, (lookR ok (SV.of z) (getM key ps)).Is r u ∧ ∀ W' : World, (do
            let (v, b) ← match ← Instr.findKey kt key es with | some (_, v) => pure (v, true) | none => pure (← zeroValue et, false)
            pure (if ok then .tuple #[v, .bool b] else v) : Sem Value).run P W' = .ok u W' := by
          intro W' es hes
          rcases find_ok hik hes with ⟨f1, f2⟩ | ⟨q, s, u, f1, f2, f3⟩
          · refine ⟨if ok then .tuple #[z, .bool false] else z, ?_, fun W' => ?_⟩
            · unfold getM lookR
              rw [f1]
              cases ok
              · simpa using SV.of_is r z
              · simp only [cond_true, SV.Is, SV.IsL, if_true, Option.map_none, Option.getD_none, Option.isSome_none]
                exact ⟨[z, .bool false], rfl, z, _, rfl, SV.of_is r z, _, _, rfl, rfl, rfl⟩
            · simp only [Sem.run_bind, Go.MapKept.run_findKey hun f2, Result.andThen_ok, zrun, Sem.run_pure]
          · refine ⟨if ok then .tuple #[u, .bool true] else u, ?_, fun W' => ?_⟩
            · unfold getM lookR
              rw [f1]
              cases ok
              · simpa using f3
              · simp only [cond_true, SV.Is, SV.IsL, if_true, Option.map_some, Option.getD_some, Option.isSome_some]
                exact ⟨[u, .bool true], rfl, u, _, rfl, f3, _, _, rfl, rfl, rfl⟩
            · simp only [Sem.run_bind, Go.MapKept.run_findKey hun f2, Result.andThen_ok, Sem.run_pure]
        unfold mapOf at hps
        split at hps
        · rename_i k hb
          rw [hb] at hx; simp only [SV.Is] at hx
          obtain ⟨l, hl, hv⟩ := hx
          split at hps
          · rename_i ob hob
            obtain ⟨es, g1, g2, _⟩ := mapOb_ok (hst.obj k l ob hl hob) hps
            obtain ⟨u, f1, f2⟩ := fin W es.toList g2
            refine ⟨_, u, h, f1, fun W' hS => ok_value ?_⟩
            have g3 := hst.sblk (hS rfl) hl
            rw [g1] at g3
            have := f2 W'
            simp only [Instr.lookup, hv, hi, Sem.run_bind, run_underlying hu, Result.andThen_ok, Go.MapKept.run_getObj_map g3, Sem.run_pure, Go.MapKept.run_checkKey hun hik] at this ⊢
            exact this
          · cases hps
        · rename_i hb
          injection hps with hps; subst hps
          rw [hb] at hx; simp only [SV.Is] at hx
          obtain ⟨u, f1, f2⟩ := fin W [] (by simp [MapIs])
          refine ⟨_, u, h, f1, fun W' hS => ok_value ?_⟩
          have := f2 W'
          simp only [Instr.lookup, hx, hi, Sem.run_bind, run_underlying hu, Result.andThen_ok, Sem.run_pure, Go.MapKept.run_checkKey hun hik] at this ⊢
          exact this
        · cases hps
      · exact h.elim
    · cases hc
  case h_20 t x lo hi =>
    have hx := hg x
    split at hc
    · rename_i el hu
      obtain ⟨j, hj, hc⟩ := Option.map_eq_some_iff.1 hc
      subst hc
      simp only [evA] at h
      split at h
      · rename_i k o n1 s hb
        rw [hb] at hx; simp only [SV.Is] at hx
        obtain ⟨rfl, h⟩ := h
        obtain ⟨l, cap, hl, hcap, hroom, hv⟩ := hx
        obtain ⟨hh, h, hhv⟩ := evBd_sound hg h
        obtain ⟨ll, h, hlv⟩ := evBd_sound hg h
        obtain ⟨⟨h1, h2⟩, h⟩ := h
        have hrun := fun W => run_bounds (P := P) (s := true) (len := n1) (cap := cap) hhv hlv h1 (by omega) W
        split at h
        · rename_i hcond
          refine ⟨_, .slice (some ⟨l.blk, l.off + (o + ll * j.size), none⟩) (hh - ll) (cap - ll), h, ?_, fun W' _ => ok_value ?_⟩
          · simp only [SV.Is]
            refine ⟨l, cap - ll, hl, by omega, ?_, rfl⟩
            rw [Nat.sub_mul]
            have : ll * j.size ≤ cap * j.size := Nat.mul_le_mul_right _ (by omega)
            omega
          · simp only [Instr.sliceAt, Option.map_none, Instr.slice, Sem.run_bind, run_underlying hu, Result.andThen_ok, hv, hrun, sizeOf, typeInfo, run_program, hj, Sem.run_pure]
            by_cases e1 : cap = ll
            · have : ll = 0 := by omega
              subst this
              subst e1
              simp
            · rw [if_neg e1]
              simp [Addr.add_lit, Nat.add_assoc]
        · rename_i hcond
          refine ⟨_, .slice (some (if cap = ll then ⟨l.blk, l.off + o, none⟩ else ⟨l.blk, l.off + o + ll * j.size, none⟩)) (hh - ll) (cap - ll), h, ?_, fun W' _ => ok_value ?_⟩
          · simp only [SV.Is]
            exact ⟨_, cap - ll, by congr 1; omega, by split <;> rfl⟩
          · simp only [Instr.sliceAt, Option.map_none, Instr.slice, Sem.run_bind, run_underlying hu, Result.andThen_ok, hv, hrun, sizeOf, typeInfo, run_program, hj, Sem.run_pure]
            by_cases e1 : cap = ll
            · rw [if_pos e1, if_pos e1]
            · rw [if_neg e1, if_neg e1]
              simp [Addr.add_lit]
      · rename_i p n1 c1 hb
        rw [hb] at hx; simp only [SV.Is] at hx
        obtain ⟨hh, h, hhv⟩ := evBd_sound hg h
        obtain ⟨ll, h, hlv⟩ := evBd_sound hg h
        obtain ⟨⟨h1, h2⟩, hk0⟩ := h
        have hrun := fun W => run_bounds (P := P) (s := true) (len := n1) (cap := c1) hhv hlv h1 h2 W
        refine ⟨_, .slice (cutA p ll c1 j.size) (hh - ll) (c1 - ll), hk0, by simp only [SV.Is], fun W' _ => ok_value ?_⟩
        simp only [Instr.sliceAt, Option.map_none, Instr.slice, Sem.run_bind, run_underlying hu, Result.andThen_ok, hx, hrun, sizeOf, typeInfo, run_program, hj, Sem.run_pure, cutA, plusA]
      · rename_i hb
        rw [hb] at hx; simp only [SV.Is] at hx
        obtain ⟨ad, hx, had⟩ := hx
        obtain ⟨hh, h, hhv⟩ := evBd_sound hg h
        obtain ⟨ll, h, hlv⟩ := evBd_sound hg h
        obtain ⟨⟨h1, h2⟩, hk0⟩ := h
        have hrun := fun W => run_bounds (P := P) (s := true) (len := 0) (cap := 0) hhv hlv h1 h2 W
        obtain rfl : hh = 0 := by omega
        obtain rfl : ll = 0 := by omega
        refine ⟨_, .slice ad 0 0, hk0, by simp only [SV.Is]; exact ⟨ad, rfl, had⟩, fun W' _ => ok_value ?_⟩
        simp only [Instr.sliceAt, Option.map_none, Instr.slice, Sem.run_bind, run_underlying hu, Result.andThen_ok, hx, hrun, sizeOf, typeInfo, run_program, hj, Sem.run_pure]
        simp
      · exact h.elim
    · rename_i n1 el hu
      obtain ⟨j, hj, hc⟩ := Option.map_eq_some_iff.1 hc
      subst hc
      simp only [evA] at h
      split at h
      · rename_i k o hb
        rw [hb] at hx; simp only [SV.Is] at hx
        obtain ⟨l, hl, hv⟩ := hx
        obtain ⟨hfit, h⟩ := h
        have hroom : o + n1 * j.size ≤ l.room := by
          split at hfit
          · rename_i ob hob
            have := (hst.obj k l ob hl hob).fits
            omega
          · exact hfit.elim
        obtain ⟨hh, h, hhv⟩ := evBd_sound hg h
        obtain ⟨ll, h, hlv⟩ := evBd_sound hg h
        obtain ⟨⟨h1, h2⟩, h⟩ := h
        have hrun := fun W => run_bounds (P := P) (s := false) (len := n1) (cap := n1) hhv hlv h1 h2 W
        split at h
        · rename_i hcond
          refine ⟨_, .slice (some ⟨l.blk, l.off + (o + ll * j.size), none⟩) (hh - ll) (n1 - ll), h, ?_, fun W' _ => ok_value ?_⟩
          · simp only [SV.Is]
            refine ⟨l, n1 - ll, hl, by omega, ?_, rfl⟩
            rw [Nat.sub_mul]
            have : ll * j.size ≤ n1 * j.size := Nat.mul_le_mul_right _ (by omega)
            omega
          · simp only [Instr.sliceAt, Option.map_none, Sem.run_bind, run_underlying hu, Result.andThen_ok, hv, Instr.sureAddr, hrun, sizeOf, typeInfo, run_program, hj, Sem.run_pure]
            by_cases e1 : n1 = ll
            · have : ll = 0 := by omega
              subst this
              subst e1
              simp
            · rw [if_neg e1]
              simp [Addr.add_lit, Nat.add_assoc]
        · rename_i hcond
          refine ⟨_, .slice (some (if n1 = ll then ⟨l.blk, l.off + o, none⟩ else ⟨l.blk, l.off + o + ll * j.size, none⟩)) (hh - ll) (n1 - ll), h, ?_, fun W' _ => ok_value ?_⟩
          · simp only [SV.Is]
            exact ⟨_, n1 - ll, by congr 1; omega, by split <;> rfl⟩
          · simp only [Instr.sliceAt, Option.map_none, Sem.run_bind, run_underlying hu, Result.andThen_ok, hv, Instr.sureAddr, hrun, sizeOf, typeInfo, run_program, hj, Sem.run_pure]
            by_cases e1 : n1 = ll
            · rw [if_pos e1, if_pos e1]
            · rw [if_neg e1, if_neg e1]
              simp [Addr.add_lit]
      · exact h.elim
    · rename_i hu
      injection hc with hc; subst hc
      simp only [evA] at h
      split at h
      · rename_i s hb
        rw [hb] at hx; simp only [SV.Is] at hx
        obtain ⟨hh, h, hhv⟩ := evBd_sound hg h
        obtain ⟨ll, h, hlv⟩ := evBd_sound hg h
        obtain ⟨⟨h1, h2⟩, h⟩ := h
        have hrun := fun W => run_bounds (P := P) (s := false) (len := s.size) (cap := s.size) hhv hlv h1 h2 W
        refine ⟨_, _, h, by simp only [SV.Is]; rfl, fun W' _ => ok_value ?_⟩
        simp only [Instr.sliceAt, Option.map_none, Instr.slice, Sem.run_bind, run_underlying hu, Result.andThen_ok, hx, Sem.run_ite, hrun, Sem.run_pure, Option.isSome_none, Bool.false_eq_true, if_false, Option.map_none]
      · exact h.elim
    · cases hc
  case h_21 t x lo hi mx =>
    have hx := hg x
    split at hc
    · rename_i el hu
      obtain ⟨j, hj, hc⟩ := Option.map_eq_some_iff.1 hc
      subst hc
      simp only [evA] at h
      have ebd : ∀ {d : Nat} {x : Operand} {K : Nat → Prop}, evBd d (some ((XO.of x).get e)) K → ∃ i k, K i.toNat ∧ a.eval x = .int k i ∧ 0 ≤ i := by
        intro d x K hh
        obtain ⟨jj, h1, h2⟩ := evBd_sound (x := some x) hg hh
        rcases h2 with ⟨h2, _⟩ | ⟨v, k, i, h2, h3, h4, rfl⟩
        · cases h2
        · injection h2 with h2; subst h2
          exact ⟨i, k, h1, h3, h4⟩
      have bounds3 : ∀ {len cap l : Nat} {im ih : Int} {km kh : IntKind}, a.eval mx = .int km im → 0 ≤ im → im.toNat ≤ cap → a.eval hi = .int kh ih → 0 ≤ ih → ih.toNat ≤ im.toNat → ((lo = none ∧ l = 0) ∨ ∃ v k i, lo = some v ∧ a.eval v = .int k i ∧ 0 ≤ i ∧ l = i.toNat) → l ≤ ih.toNat →
          ∀ W', (Instr.sliceBounds true len cap (lo.map a.eval) ((some hi).map a.eval) ((some mx).map a.eval)).run P W' = .ok (l, ih.toNat, im.toNat) W' := by
        intro len cap l im ih km kh e1 e2 e3 e4 e5 e6 e7 e8 W'
        rcases e7 with ⟨rfl, rfl⟩ | ⟨v, k, i, rfl, hv, h0, rfl⟩
        · simp only [Instr.sliceBounds, Option.map_some, Option.map_none, e1, e4, Sem.run_bind, Sem.run_pure, Result.andThen_ok, run_bound e2 e3, run_bound e5 e6]
        · simp only [Instr.sliceBounds, Option.map_some, e1, e4, hv, Sem.run_bind, Sem.run_pure, Result.andThen_ok, run_bound e2 e3, run_bound e5 e6, run_bound h0 e8]
      split at h
      · rename_i k o n1 s hb
        rw [hb] at hx; simp only [SV.Is] at hx
        obtain ⟨rfl, h⟩ := h
        obtain ⟨l, cap, hl, hcap, hroom, hv⟩ := hx
        obtain ⟨im, km, h, e1, e2⟩ := ebd h
        obtain ⟨ih, kh, h, e4, e5⟩ := ebd h
        obtain ⟨ll, h, hlv⟩ := evBd_sound hg h
        obtain ⟨⟨h1, h2, h3⟩, h⟩ := h
        have hrun := bounds3 (len := n1) (cap := cap) e1 e2 (by omega) e4 e5 h2 hlv h1
        split at h
        · rename_i hcond
          refine ⟨_, .slice (some ⟨l.blk, l.off + (o + ll * j.size), none⟩) (ih.toNat - ll) (im.toNat - ll), h, ?_, fun W' _ => ok_value ?_⟩
          · simp only [SV.Is]
            refine ⟨l, im.toNat - ll, hl, by omega, ?_, rfl⟩
            rw [Nat.sub_mul]
            have : ll * j.size ≤ im.toNat * j.size := Nat.mul_le_mul_right _ (by omega)
            have : im.toNat * j.size ≤ cap * j.size := Nat.mul_le_mul_right _ (by omega)
            omega
          · simp only [Instr.sliceAt, Instr.slice, Sem.run_bind, run_underlying hu, Result.andThen_ok, hv, hrun, sizeOf, typeInfo, run_program, hj, Sem.run_pure]
            by_cases e1 : im.toNat = ll
            · have : ll = 0 := by omega
              subst this
              simp [e1]
            · rw [if_neg e1]
              simp [Addr.add_lit, Nat.add_assoc]
        · rename_i hcond
          refine ⟨_, .slice (some (if im.toNat = ll then ⟨l.blk, l.off + o, none⟩ else ⟨l.blk, l.off + o + ll * j.size, none⟩)) (ih.toNat - ll) (im.toNat - ll), h, ?_, fun W' _ => ok_value ?_⟩
          · simp only [SV.Is]
            exact ⟨_, im.toNat - ll, by congr 1; omega, by split <;> rfl⟩
          · simp only [Instr.sliceAt, Instr.slice, Sem.run_bind, run_underlying hu, Result.andThen_ok, hv, hrun, sizeOf, typeInfo, run_program, hj, Sem.run_pure]
            by_cases e1 : im.toNat = ll
            · rw [if_pos e1, if_pos e1]
            · rw [if_neg e1, if_neg e1]
              simp [Addr.add_lit]
      · rename_i p n1 c1 hb
        rw [hb] at hx; simp only [SV.Is] at hx
        obtain ⟨im, km, h, e1, e2⟩ := ebd h
        obtain ⟨ih, kh, h, e4, e5⟩ := ebd h
        obtain ⟨ll, h, hlv⟩ := evBd_sound hg h
        obtain ⟨⟨h1, h2, h3⟩, hk0⟩ := h
        have hrun := bounds3 (len := n1) (cap := c1) e1 e2 h3 e4 e5 h2 hlv h1
        refine ⟨_, .slice (cutA p ll im.toNat j.size) (ih.toNat - ll) (im.toNat - ll), hk0, by simp only [SV.Is], fun W' _ => ok_value ?_⟩
        simp only [Instr.sliceAt, Instr.slice, Sem.run_bind, run_underlying hu, Result.andThen_ok, hx, hrun, sizeOf, typeInfo, run_program, hj, Sem.run_pure, cutA, plusA]
      · rename_i hb
        rw [hb] at hx; simp only [SV.Is] at hx
        obtain ⟨ad, hx, had⟩ := hx
        obtain ⟨im, km, h, e1, e2⟩ := ebd h
        obtain ⟨ih, kh, h, e4, e5⟩ := ebd h
        obtain ⟨ll, h, hlv⟩ := evBd_sound hg h
        obtain ⟨⟨h1, h2, h3⟩, hk0⟩ := h
        have hrun := bounds3 (len := 0) (cap := 0) e1 e2 h3 e4 e5 h2 hlv h1
        have q1 : im.toNat = 0 := by omega
        have q2 : ih.toNat = 0 := by omega
        obtain rfl : ll = 0 := by omega
        rw [q1, q2] at hrun
        refine ⟨_, .slice ad 0 0, hk0, by simp only [SV.Is]; exact ⟨ad, rfl, had⟩, fun W' _ => ok_value ?_⟩
        simp only [Instr.sliceAt, Instr.slice, Sem.run_bind, run_underlying hu, Result.andThen_ok, hx, hrun, sizeOf, typeInfo, run_program, hj, Sem.run_pure]
        simp
      · exact h.elim
    · cases hc
  case h_22 => cases hc
end
end Go.Proofs.Ytibefgdjijmncaa.Sz
