/- Symbolic walks, part V: objects that hide what they are made of; methods, walked over what is hidden. No condition. -/
import Derived.Test.YtibefgdjijmncaaSzN
namespace Go.Proofs.Ytibefgdjijmncaa.Sz
open Go.RowKit
set_option linter.unusedVariables false
set_option linter.unusedSimpArgs false
set_option maxHeartbeats 2000000
theorem ObjAt.mono {base base' : Nat → Prop} {r : List Loc} {w : World} {l : Loc} {o : SObj} (h : ObjAt base r w l o) (hb : base l.blk → base' l.blk) : ObjAt base' r w l o :=
  ⟨h.there, h.fits, fun ho => hb (h.own ho), h.lt, h.ext⟩
/-- Objects: the hider's own cells, what it leads to (dead here), what is hidden. -/
def hidM (n : Nat) (h : List SV) (H : Mem) : Mem := ⟨true, h⟩ :: (List.replicate n ⟨false, []⟩ ++ H)
theorem hidM_0 {n : Nat} {h : List SV} {H : Mem} : (hidM n h H)[0]? = some ⟨true, h⟩ := rfl
theorem hidM_ref {n : Nat} {h : List SV} {H : Mem} {i : Nat} (hi : i < n) : (hidM n h H)[i + 1]? = some ⟨false, []⟩ := by
  unfold hidM
  rw [List.getElem?_cons_succ, List.getElem?_append_left (by simpa using hi), List.getElem?_replicate, if_pos hi]
theorem hidM_hid {n : Nat} {h : List SV} {H : Mem} {i : Nat} : (hidM n h H)[n + 1 + i]? = H[i]? := by
  unfold hidM
  rw [show n + 1 + i = (n + i) + 1 by omega, List.getElem?_cons_succ, List.getElem?_append_right (by simp)]
  simp
theorem hidM_cases {n : Nat} {h : List SV} {H : Mem} {k : Nat} {o : SObj} (hk : (hidM n h H)[k]? = some o) : (k = 0 ∧ o = ⟨true, h⟩) ∨ (∃ i, i < n ∧ k = i + 1 ∧ o = ⟨false, []⟩) ∨ ∃ i, k = n + 1 + i ∧ H[i]? = some o := by
  match k with
  | 0 => rw [hidM_0] at hk; injection hk with hk; exact .inl ⟨rfl, hk.symm⟩
  | i + 1 =>
    by_cases hi : i < n
    · rw [hidM_ref hi] at hk; injection hk with hk; exact .inr (.inl ⟨i, hi, rfl, hk.symm⟩)
    · refine .inr (.inr ⟨i - n, by omega, ?_⟩)
      rw [← hk, ← hidM_hid (n := n) (h := h)]
      congr 1
      omega
structure HideIs (n : Nat) (P : List SV → Mem → Prop) (ls : List Loc) (l : Loc) (fp : List Nat) (w : World) (h : List SV) (H : Mem) (rH : List Loc) (F : Nat → List Nat) : Prop where
  is : P h H
  lsl : ls.length = n
  len : rH.length = H.length
  own : ∀ o ∈ H, o.own = true ∨ o.cells = []
  obj : ∀ (k : Nat) (lk : Loc) (o : SObj), (l :: (ls ++ rH))[k]? = some lk → (hidM n h H)[k]? = some o → (k = 0 ∨ n < k) → ObjAt (fun b => b = l.blk ∨ b ∈ fp) (l :: (ls ++ rH)) w lk o
  blk : ∀ (k : Nat) (lk : Loc) (o : SObj), (l :: (ls ++ rH))[k]? = some lk → (hidM n h H)[k]? = some o → n < k → o.own = true → lk.blk ∈ fp
  sep : ∀ (k k' : Nat) (l1 l2 : Loc) (o o' : SObj), (l :: (ls ++ rH))[k]? = some l1 → (l :: (ls ++ rH))[k']? = some l2 → (hidM n h H)[k]? = some o → (hidM n h H)[k']? = some o' → k ≠ k' → o.own = true → o'.own = true → l1.blk ≠ l2.blk
  hid : ∀ (k : Nat) (lk : Loc) (o : SObj), (l :: (ls ++ rH))[k]? = some lk → (hidM n h H)[k]? = some o → HidIs (l :: (ls ++ rH)) w lk (F k) o
  sub : ∀ k, ∀ b ∈ F k, n < k ∧ b ∈ fp
  far : ∀ k, ∀ b ∈ F k, ∀ (k' : Nat) (l1 : Loc) (o : SObj), (l :: (ls ++ rH))[k']? = some l1 → (hidM n h H)[k']? = some o → o.own = true → l1.blk ≠ b
  apart : ∀ k k', ∀ b ∈ F k, b ∈ F k' → k = k'
/-- What an object hides. -/
def hide (n : Nat) (P : List SV → Mem → Prop) : Abs where
  holds := fun ls l fp w => ∃ h H rH F, HideIs n P ls l fp w h H rH F
  stable := fun ls l fp W W' ⟨h, H, rH, F, a⟩ hsz hs => by
    have hin : ∀ (k : Nat) (lk : Loc) (o : SObj), (l :: (ls ++ rH))[k]? = some lk → (hidM n h H)[k]? = some o → (k = 0 ∨ n < k) → o.own = true → lk.blk ∈ l.blk :: fp := by
      intro k lk o h1 h2 hk ho
      rcases hk with rfl | hk
      · simp at h1; subst h1; simp
      · exact List.mem_cons_of_mem _ (a.blk k lk o h1 h2 hk ho)
    refine ⟨h, H, rH, F, a.is, a.lsl, a.len, a.own, fun k lk o h1 h2 hk => ?_, a.blk, a.sep, fun k lk o h1 h2 => ?_, a.sub, a.far, a.apart⟩
    · have hO := a.obj k lk o h1 h2 hk
      cases ho : o.own with
      | true => exact hO.same (hs _ (hin k lk o h1 h2 hk ho))
      | false =>
        have hc : o.cells = [] := by
          rcases hidM_cases h2 with ⟨_, rfl⟩ | ⟨i, _, rfl, rfl⟩ | ⟨i, rfl, hi⟩
          · simp at ho
          · rfl
          · rcases a.own o (List.mem_of_getElem? hi) with h | h
            · rw [ho] at h; cases h
            · exact h
        rw [hO.isDead ho hc]
        exact .dead (Nat.lt_of_lt_of_le hO.lt hsz)
    · cases ha : o.isA with
      | false => exact HidIs.not ha
      | true =>
        have hk : k = 0 ∨ n < k := by
          rcases hidM_cases h2 with ⟨rfl, _⟩ | ⟨i, _, rfl, rfl⟩ | ⟨i, rfl, hi⟩
          · exact .inl rfl
          · simp at ha
          · exact .inr (by omega)
        have ho := (a.obj k lk o h1 h2 hk).isA_own ha
        refine (a.hid k lk o h1 h2).same hsz fun b hb => hs b ?_
        rcases List.mem_cons.1 hb with rfl | hb
        · exact hin k lk o h1 h2 hk ho
        · exact List.mem_cons_of_mem _ (a.sub k b hb).2
def absO (A : Abs) (refs : List Nat) : SObj := @SObj.mk true [] ⟨.abs A refs⟩
theorem absO_own {A : Abs} {refs : List Nat} : (absO A refs).own = true := rfl
theorem absO_isM {A : Abs} {refs : List Nat} : (absO A refs).isM = false := rfl
theorem absO_isA {A : Abs} {refs : List Nat} : (absO A refs).isA = true := rfl
theorem absO_cells {A : Abs} {refs : List Nat} : (absO A refs).cells = [] := rfl
theorem absO_hid {r : List Loc} {w : World} {l : Loc} {fp : List Nat} {A : Abs} {refs : List Nat} : HidIs r w l fp (absO A refs) = ∃ ls, refs.mapM (r[·]?) = some ls ∧ A.holds ls l fp w := rfl
/-- An object that a hider leads to: one that hides, or one of plain cells. -/
inductive RO where
  | ab (A : Abs) (refs : List Nat)
  | pl (cs : List SV)
/-- As the hider's memory has it. -/
def RO.loc : RO → SObj
  | .ab A refs => absO A refs
  | .pl cs => ⟨true, cs⟩
def ren (g : List Nat) (k : Nat) : Nat := g.getD k 0
/-- As the caller's memory has it. -/
def RO.out (g : List Nat) : RO → SObj
  | .ab A refs => absO A (refs.map (ren g))
  | .pl cs => ⟨true, cs⟩
def RO.ok (n : Nat) : RO → Prop
  | .ab _ refs => ∀ x ∈ refs, x < n
  | .pl cs => plainL cs = true
theorem RO.loc_own {o : RO} : o.loc.own = true := by cases o <;> rfl
theorem RO.out_own {g : List Nat} {o : RO} : (o.out g).own = true := by cases o <;> rfl
theorem RO.cells_eq {g : List Nat} {o : RO} : (o.out g).cells = o.loc.cells := by cases o <;> rfl
/-- One that says the same in another memory. -/
theorem RO.obj {base base' : Nat → Prop} {r r' : List Loc} {w : World} {l : Loc} {o : RO} {g : List Nat} {n : Nat} (hok : o.ok n) (h : ObjAt base r w l (o.out g)) (hb : base' l.blk) : ObjAt base' r' w l o.loc := by
  cases o with
  | ab A refs =>
    refine ⟨fun _ _ => ?_, Nat.zero_le _, fun _ => hb, h.lt, rfl⟩
    obtain ⟨c, T, fr, h1, h2, _, h4⟩ := h.there rfl (.inl rfl)
    exact ⟨c, T, fr, h1, h2, by simp [RO.loc, absO, SV.IsL], fun _ => h4 rfl⟩
  | pl cs =>
    refine ⟨fun _ _ => ?_, h.fits, fun _ => hb, h.lt, trivial⟩
    obtain ⟨c, T, fr, h1, h2, h3, h4⟩ := h.there rfl (.inl rfl)
    exact ⟨c, T, fr, h1, h2, plainL_is hok h3, fun _ => h4 rfl⟩
theorem RO.obj' {base base' : Nat → Prop} {r r' : List Loc} {w : World} {l : Loc} {o : RO} {g : List Nat} {n : Nat} (hok : o.ok n) (h : ObjAt base r w l o.loc) (hb : base' l.blk) : ObjAt base' r' w l (o.out g) := by
  cases o with
  | ab A refs =>
    refine ⟨fun _ _ => ?_, Nat.zero_le _, fun _ => hb, h.lt, rfl⟩
    obtain ⟨c, T, fr, h1, h2, _, h4⟩ := h.there rfl (.inl rfl)
    exact ⟨c, T, fr, h1, h2, by simp [RO.out, absO, SV.IsL], fun _ => h4 rfl⟩
  | pl cs =>
    refine ⟨fun _ _ => ?_, h.fits, fun _ => hb, h.lt, trivial⟩
    obtain ⟨c, T, fr, h1, h2, h3, h4⟩ := h.there rfl (.inl rfl)
    exact ⟨c, T, fr, h1, h2, plainL_is hok h3, fun _ => h4 rfl⟩
theorem mapM_map {r r' : List Loc} {g : List Nat} : ∀ {refs : List Nat}, (∀ x ∈ refs, r[x]? = r'[ren g x]?) → refs.mapM (r[·]?) = (refs.map (ren g)).mapM (r'[·]?)
  | [], _ => rfl
  | x :: l, h => by
    rw [List.map_cons, List.mapM_cons, List.mapM_cons, h x (by simp), mapM_map fun y hy => h y (by simp [hy])]
theorem RO.hid {r r' : List Loc} {w : World} {l : Loc} {fp : List Nat} {o : RO} {g : List Nat} {n : Nat} (hok : o.ok n) (hg : ∀ x, x < n → r'[x]? = r[ren g x]?) : HidIs r w l fp (o.out g) = HidIs r' w l fp o.loc := by
  cases o with
  | ab A refs =>
    show (∃ ls, (refs.map (ren g)).mapM (r[·]?) = some ls ∧ A.holds ls l fp w) = (∃ ls, refs.mapM (r'[·]?) = some ls ∧ A.holds ls l fp w)
    rw [mapM_map fun x hx => hg x (hok x hx)]
  | pl cs => rfl
theorem dead_of {o : SObj} (h : ¬ (o.own = true ∨ o.cells ≠ [])) : o.own = false ∧ o.cells = [] := by
  refine ⟨?_, ?_⟩
  · cases hy : o.own with
    | false => rfl
    | true => exact (h (.inl hy)).elim
  · cases hy : o.cells with
    | nil => rfl
    | cons a l => exact (h (.inr (by rw [hy]; simp))).elim
/-! ### Opened, and shut again -/
/-- The hider's memory while it is open. -/
def opM (h : List SV) (os : List RO) (H : Mem) : Mem := ⟨true, h⟩ :: (os.map RO.loc ++ H)
theorem opM_cases {h : List SV} {os : List RO} {H : Mem} {k : Nat} {o : SObj} (hk : (opM h os H)[k]? = some o) : (k = 0 ∧ o = ⟨true, h⟩) ∨ (∃ i q, os[i]? = some q ∧ k = i + 1 ∧ o = q.loc) ∨ ∃ i, k = os.length + 1 + i ∧ H[i]? = some o := by
  unfold opM at hk
  match k with
  | 0 => simp at hk; exact .inl ⟨rfl, hk.symm⟩
  | i + 1 =>
    rw [List.getElem?_cons_succ] at hk
    by_cases hi : i < os.length
    · rw [List.getElem?_append_left (by simpa using hi), List.getElem?_map] at hk
      obtain ⟨q, hq, hk⟩ := Option.map_eq_some_iff.1 hk
      exact .inr (.inl ⟨i, q, hq, rfl, hk.symm⟩)
    · rw [List.getElem?_append_right (by simp; omega)] at hk
      exact .inr (.inr ⟨i - os.length, by omega, by simpa using hk⟩)
theorem opM_ref {h : List SV} {os : List RO} {H : Mem} {i : Nat} {q : RO} (hq : os[i]? = some q) : (opM h os H)[i + 1]? = some q.loc := by
  unfold opM
  have := (List.getElem?_eq_some_iff.1 hq).1
  rw [List.getElem?_cons_succ, List.getElem?_append_left (by simpa using this), List.getElem?_map, hq]; rfl
theorem opM_hid {h : List SV} {os : List RO} {H : Mem} {i : Nat} : (opM h os H)[os.length + 1 + i]? = H[i]? := by
  unfold opM
  rw [show os.length + 1 + i = (os.length + i) + 1 by omega, List.getElem?_cons_succ, List.getElem?_append_right (by simp)]
  simp
theorem hidM_op {n : Nat} {h : List SV} {os : List RO} {H : Mem} (hn : os.length = n) {k : Nat} (hk : k = 0 ∨ n < k) : (hidM n h H)[k]? = (opM h os H)[k]? := by
  rcases hk with rfl | hk
  · rfl
  · obtain ⟨i, rfl⟩ : ∃ i, k = n + 1 + i := ⟨k - n - 1, by omega⟩
    rw [hidM_hid, ← hn, opM_hid]
section
variable {base : Nat → Prop} {w0 W W1 : World} {r : List Loc} {m : Mem}
/-- The blocks that an object and those it leads to own and hide, and all new ones. -/
def opB (W : World) (r : List Loc) (F : Nat → List Nat) (g : List Nat) (b : Nat) : Prop := W.heap.size ≤ b ∨ ∃ x ∈ g, (∃ lx, r[x]? = some lx ∧ b = lx.blk) ∨ b ∈ F x
open Classical in
/-- All that stands elsewhere, to be read. -/
@[reducible] noncomputable def opI (W : World) (B : Nat → Prop) (n : Nat) : Inp := ⟨fun a => if B a.block then none else W.cell? a, n⟩
theorem opB_base [Inp] (hst : St base w0 r m W) {F : Nat → List Nat} (hF : Hid base r m W F) {g : List Nat} (hown : ∀ x ∈ g, ∃ o, m[x]? = some o ∧ o.own = true) {b : Nat} (h : opB W r F g b) : base b := by
  rcases h with h | ⟨x, hx, h⟩
  · exact hst.from_ b (Nat.le_trans hst.low.size h)
  · rcases h with ⟨lx, h1, rfl⟩ | h
    · obtain ⟨o, ho, how⟩ := hown x hx
      exact (hst.obj x lx o h1 ho).own how
    · exact (hF.base x b h).1
theorem ren_0 {j : Nat} {refs : List Nat} : ren (j :: refs) 0 = j := rfl
theorem ren_s {j i q : Nat} {refs : List Nat} (h : refs[i]? = some q) : ren (j :: refs) (i + 1) = q := by simp [ren, h]
theorem mapM_get {r : List Loc} : ∀ {refs : List Nat} {ls : List Loc}, refs.mapM (r[·]?) = some ls → ls.length = refs.length ∧ ∀ (i q : Nat), refs[i]? = some q → r[q]? = ls[i]? ∧ ls[i]? ≠ none
  | [], ls, h => by simp at h; subst h; simp
  | x :: l, ls, h => by
    rw [List.mapM_cons] at h
    obtain ⟨a, ha, h⟩ := Option.bind_eq_some_iff.1 h
    obtain ⟨b, hb, h⟩ := Option.bind_eq_some_iff.1 h
    simp at h
    subst h
    obtain ⟨h1, h2⟩ := mapM_get hb
    refine ⟨by simp [h1], fun i q hi => ?_⟩
    cases i with
    | zero => simp at hi; subst hi; simpa using ha
    | succ i => simpa using h2 i q (by simpa using hi)
theorem refs_get {n : Nat} {l : Loc} {ls rH : List Loc} {i : Nat} (hn : ls.length = n) (hi : i < n) : (l :: (ls ++ rH))[i + 1]? = ls[i]? := by
  rw [List.getElem?_cons_succ, List.getElem?_append_left (by omega)]
/-- An object is opened: a method's walk, over what it hides. -/
theorem St.open_ [I : Inp] (hst : St base w0 r m W) {F : Nat → List Nat} (hF : Hid base r m W F) {j n : Nat} {l : Loc} {P : List SV → Mem → Prop} {refs : List Nat} {os : List RO} (hl : r[j]? = some l) (hm : m[j]? = some (absO (hide n P) refs))
    (hnd : (j :: refs).Nodup) (hrn : refs.length = n) (hon : os.length = n) (hos : ∀ (i q : Nat) (o : RO), refs[i]? = some q → os[i]? = some o → m[q]? = some (o.out (j :: refs)) ∧ o.ok (n + 1)) :
    ∃ h H ls rH, P h H ∧ ls.length = n ∧ rH.length = H.length ∧ refs.mapM (r[·]?) = some ls ∧ @St (opI W (opB W r F (j :: refs)) (n + 1)) (opB W r F (j :: refs)) W (l :: (ls ++ rH)) (opM h os H) W := by
  have hh := hF.is j l _ hl hm
  rw [absO_hid] at hh
  obtain ⟨ls, hls, h, H, rH, Fi, a⟩ := hh
  have hlsn := a.lsl
  obtain ⟨_, hlsg⟩ := mapM_get hls
  have rj : ∀ i : Nat, i < n → ∃ (q : Nat) (o : RO) (lq : Loc), refs[i]? = some q ∧ os[i]? = some o ∧ ls[i]? = some lq ∧ r[q]? = some lq ∧ m[q]? = some (o.out (j :: refs)) ∧ o.ok (n + 1) ∧ q ≠ j := by
    intro i hi
    obtain ⟨q, hq⟩ : ∃ q, refs[i]? = some q := ⟨_, List.getElem?_eq_getElem (by omega)⟩
    obtain ⟨o, ho⟩ : ∃ o, os[i]? = some o := ⟨_, List.getElem?_eq_getElem (by omega)⟩
    obtain ⟨lq, hlq⟩ : ∃ lq, ls[i]? = some lq := ⟨_, List.getElem?_eq_getElem (by omega)⟩
    obtain ⟨h1, h2⟩ := hos i q o hq ho
    refine ⟨q, o, lq, hq, ho, hlq, by rw [(hlsg i q hq).1, hlq], h1, h2, fun e => ?_⟩
    rw [List.nodup_cons] at hnd
    exact hnd.1 (e ▸ List.mem_of_getElem? hq)
  have inj : ∀ i i' q : Nat, refs[i]? = some q → refs[i']? = some q → i = i' := by
    intro i i' q h1 h2
    rw [List.nodup_cons] at hnd
    exact (List.getElem?_inj (List.getElem?_eq_some_iff.1 h1).1 hnd.2).1 (h1.trans h2.symm)
  have mj : (absO (hide n P) refs).own = true := rfl
  have bj : opB W r F (j :: refs) l.blk := .inr ⟨j, by simp, .inl ⟨l, hl, rfl⟩⟩
  have bF : ∀ b, b ∈ F j → opB W r F (j :: refs) b := fun b hb => .inr ⟨j, by simp, .inr hb⟩
  -- whose object it is
  have cs : ∀ (k : Nat) (lk : Loc) (o : SObj), (l :: (ls ++ rH))[k]? = some lk → (opM h os H)[k]? = some o →
      (k = 0 ∧ lk = l ∧ o = ⟨true, h⟩) ∨ (∃ (i q : Nat) (ro : RO), k = i + 1 ∧ i < n ∧ refs[i]? = some q ∧ r[q]? = some lk ∧ m[q]? = some (ro.out (j :: refs)) ∧ ro.ok (n + 1) ∧ q ≠ j ∧ o = ro.loc) ∨ (n < k ∧ (hidM n h H)[k]? = some o ∧ (o.own = true ∨ o.cells = []) ∧ (o.own = true → lk.blk ∈ F j)) := by
    intro k lk o h1 h2
    rcases opM_cases h2 with ⟨rfl, rfl⟩ | ⟨i, ro, hro, rfl, rfl⟩ | ⟨i, rfl, hi⟩
    · simp at h1; exact .inl ⟨rfl, h1.symm, rfl⟩
    · have hi : i < n := by have := (List.getElem?_eq_some_iff.1 hro).1; omega
      obtain ⟨q, o', lq, a1, a2, a3, a4, a5, a6, a7⟩ := rj i hi
      rw [hro] at a2; injection a2 with a2; subst a2
      rw [refs_get hlsn hi, a3] at h1; injection h1 with h1; subst h1
      exact .inr (.inl ⟨i, q, ro, rfl, hi, a1, a4, a5, a6, a7, rfl⟩)
    · have e : (hidM n h H)[os.length + 1 + i]? = some o := by rw [hon, hidM_hid]; exact hi
      refine .inr (.inr ⟨by omega, e, a.own o (List.mem_of_getElem? hi), fun ho => a.blk _ lk o h1 e (by omega) ho⟩)
  refine ⟨h, H, ls, rH, a.is, hlsn, a.len, hls, @St.mk (opI W (opB W r F (j :: refs)) (n + 1)) _ _ _ _ _ (Low.refl _ _) (fun k hk => .inl hk) (fun ad u hu => ?_) (by simp [opM, hlsn, hon, a.len]) (fun k lk o h1 h2 => ?_) (fun k k' l1 l2 o o' h1 h1' h2 h2' hne ho hal => ?_)
    ⟨fun k => if k = 0 then [] else if k ≤ n then F (ren (j :: refs) k) else Fi k, fun k lk o h1 h2 => ?_, fun k b hb => ?_, fun k b hb k' lk o h1 h2 hal => ?_, fun k k' b hb hb' => ?_⟩⟩
  · have hu' : (open Classical in if opB W r F (j :: refs) ad.block then none else W.cell? ad) = some u := hu
    split at hu'
    · cases hu'
    · rename_i hn; exact ⟨hn, hu'⟩
  · rcases cs k lk o h1 h2 with ⟨rfl, rfl, rfl⟩ | ⟨i, q, ro, rfl, hi, a1, a2, a3, a4, a5, rfl⟩ | ⟨hk, e, _, hb⟩
    · exact (a.obj 0 _ _ rfl hidM_0 (.inl rfl)).mono fun _ => bj
    · exact RO.obj a4 (hst.obj q lk _ a2 a3) (.inr ⟨q, by simp [List.mem_of_getElem? a1], .inl ⟨lk, a2, rfl⟩⟩)
    · have hO := a.obj k lk o h1 e (.inr hk)
      exact ⟨hO.there, hO.fits, fun ho => bF _ (hb ho), hO.lt, hO.ext⟩
  · have hal' : o'.own = true := by
      rcases cs k' l2 o' h1' h2' with ⟨rfl, rfl, rfl⟩ | ⟨i, q, ro, rfl, hi, a1, a2, a3, a4, a5, rfl⟩ | ⟨hk, e, hd, hb⟩
      · rfl
      · exact RO.loc_own
      · rcases hd with hd | hd
        · exact hd
        · rcases hal with hh | hh
          · exact hh
          · exact (hh hd).elim
    rcases cs k l1 o h1 h2 with ⟨rfl, rfl, rfl⟩ | ⟨i, q, ro, rfl, hi, a1, a2, a3, a4, a5, rfl⟩ | ⟨hk, e, _, hb⟩ <;> rcases cs k' l2 o' h1' h2' with ⟨rfl, rfl, rfl⟩ | ⟨i', q', ro', rfl, hi', a1', a2', a3', a4', a5', rfl⟩ | ⟨hk', e', _, hb'⟩
    · exact (hne rfl).elim
    · exact hst.sep j q' _ l2 _ _ hl a2' hm a3' (Ne.symm a5') rfl (.inl RO.out_own)
    · exact a.sep 0 k' _ l2 _ o' rfl h1' hidM_0 e' hne rfl hal'
    · exact hst.sep q j l1 _ _ _ a2 hl a3 hm a5 RO.out_own (.inl rfl)
    · refine hst.sep q q' l1 l2 _ _ a2 a2' a3 a3' (fun e => hne ?_) RO.out_own (.inl RO.out_own)
      subst e
      rw [inj i i' q a1 a1']
    · exact hF.far j _ (hb' hal') q l1 _ a2 a3 (.inl RO.out_own)
    · exact a.sep k 0 l1 _ o _ h1 rfl e hidM_0 hne ho rfl
    · exact fun e => hF.far j _ (hb ho) q' l2 _ a2' a3' (.inl RO.out_own) e.symm
    · exact a.sep k k' l1 l2 o o' h1 h1' e e' hne ho hal'
  · rcases cs k lk o h1 h2 with ⟨rfl, rfl, rfl⟩ | ⟨i, q, ro, rfl, hi, a1, a2, a3, a4, a5, rfl⟩ | ⟨hk, e, _, hb⟩
    · exact HidIs.not rfl
    · have e0 : (if i + 1 = 0 then ([] : List Nat) else if i + 1 ≤ n then F (ren (j :: refs) (i + 1)) else Fi (i + 1)) = F q := by
        rw [if_neg (by omega), if_pos (by omega), ren_s a1]
      simp only [e0]
      rw [← RO.hid (g := j :: refs) a4 (r := r) (fun x hx => ?_)]
      · exact hF.is q lk _ a2 a3
      · cases x with
        | zero => rw [ren_0]; simp [hl]
        | succ x =>
          obtain ⟨q2, o2, lq2, b1, b2, b3, b4, _⟩ := rj x (by omega)
          rw [ren_s b1, refs_get hlsn (by omega), b3, b4]
    · have e0 : (if k = 0 then ([] : List Nat) else if k ≤ n then F (ren (j :: refs) k) else Fi k) = Fi k := by
        rw [if_neg (by omega), if_neg (by omega)]
      simp only [e0]
      exact a.hid k lk o h1 e
  · split at hb
    · simp at hb
    · split at hb
      · rename_i hk0 hk
        obtain ⟨i, rfl⟩ : ∃ i, k = i + 1 := ⟨k - 1, by omega⟩
        obtain ⟨q2, o2, lq2, b1, b2, b3, b4, _⟩ := rj i (by omega)
        rw [ren_s b1] at hb
        exact ⟨.inr ⟨q2, by simp [List.mem_of_getElem? b1], .inr hb⟩, (hF.base q2 b hb).2⟩
      · obtain ⟨_, hb⟩ := a.sub k b hb
        exact ⟨bF b hb, (hF.base j b hb).2⟩
  · have hal' : o.own = true := by
      rcases cs k' lk o h1 h2 with ⟨rfl, rfl, rfl⟩ | ⟨i, q, ro, rfl, hi, a1, a2, a3, a4, a5, rfl⟩ | ⟨hk, e, hd, hb⟩
      · rfl
      · exact RO.loc_own
      · rcases hd with hd | hd
        · exact hd
        · rcases hal with hh | hh
          · exact hh
          · exact (hh hd).elim
    split at hb
    · simp at hb
    · split at hb
      · rename_i hk0 hk
        obtain ⟨i, rfl⟩ : ∃ i, k = i + 1 := ⟨k - 1, by omega⟩
        obtain ⟨q2, o2, lq2, b1, b2, b3, b4, b5, b6, b7⟩ := rj i (by omega)
        rw [ren_s b1] at hb
        rcases cs k' lk o h1 h2 with ⟨rfl, rfl, rfl⟩ | ⟨i', q, ro, rfl, hi, a1, a2, a3, a4, a5, rfl⟩ | ⟨hk', e, hd, hb'⟩
        · exact hF.far q2 b hb j _ _ hl hm (.inl rfl)
        · exact hF.far q2 b hb q lk _ a2 a3 (.inl RO.out_own)
        · intro e2
          have := hF.apart q2 j b hb (e2 ▸ hb' hal')
          exact b7 this
      · rename_i hk0 hk
        rcases cs k' lk o h1 h2 with ⟨rfl, rfl, rfl⟩ | ⟨i', q, ro, rfl, hi, a1, a2, a3, a4, a5, rfl⟩ | ⟨hk', e, hd, hb'⟩
        · exact a.far k b hb 0 _ _ rfl hidM_0 rfl
        · exact hF.far j b (a.sub k b hb).2 q lk _ a2 a3 (.inl RO.out_own)
        · exact a.far k b hb k' lk o h1 e hal'
  · split at hb
    · simp at hb
    · split at hb'
      · simp at hb'
      · rename_i hk0 hk0'
        split at hb <;> split at hb'
        · rename_i hk hk'
          obtain ⟨i, rfl⟩ : ∃ i, k = i + 1 := ⟨k - 1, by omega⟩
          obtain ⟨i', rfl⟩ : ∃ i, k' = i + 1 := ⟨k' - 1, by omega⟩
          obtain ⟨q2, o2, lq2, b1, b2, b3, b4, b5, b6, b7⟩ := rj i (by omega)
          obtain ⟨q3, o3, lq3, c1, c2, c3, c4, c5, c6, c7⟩ := rj i' (by omega)
          rw [ren_s b1] at hb
          rw [ren_s c1] at hb'
          have := hF.apart q2 q3 b hb hb'
          subst this
          rw [inj i i' q2 b1 c1]
        · rename_i hk hk'
          obtain ⟨i, rfl⟩ : ∃ i, k = i + 1 := ⟨k - 1, by omega⟩
          obtain ⟨q2, o2, lq2, b1, b2, b3, b4, b5, b6, b7⟩ := rj i (by omega)
          rw [ren_s b1] at hb
          exact (b7 (hF.apart q2 j b hb (a.sub k' b hb').2)).elim
        · rename_i hk hk'
          obtain ⟨i, rfl⟩ : ∃ i, k' = i + 1 := ⟨k' - 1, by omega⟩
          obtain ⟨q2, o2, lq2, b1, b2, b3, b4, b5, b6, b7⟩ := rj i (by omega)
          rw [ren_s b1] at hb'
          exact (b7 (hF.apart q2 j b hb' (a.sub k b hb).2)).elim
        · exact a.apart k k' b hb hb'
theorem nodup_ren {j : Nat} {refs : List Nat} (hnd : (j :: refs).Nodup) : ∀ (i i' q : Nat), refs[i]? = some q → refs[i']? = some q → i = i' := by
  intro i i' q h1 h2
  rw [List.nodup_cons] at hnd
  exact (List.getElem?_inj (List.getElem?_eq_some_iff.1 h1).1 hnd.2).1 (h1.trans h2.symm)
/-- An object is shut again: it hides something else. -/
theorem St.shut [I : Inp] (hst : St base w0 r m W) {F : Nat → List Nat} (hF : Hid base r m W F) {j n : Nat} {l : Loc} {A : Abs} {P' : List SV → Mem → Prop} {refs : List Nat} {os os' : List RO} (hl : r[j]? = some l) (hm : m[j]? = some (absO A refs))
    (hnd : (j :: refs).Nodup) (hrn : refs.length = n) (hon : os.length = n) (hos : ∀ (i q : Nat) (o : RO), refs[i]? = some q → os[i]? = some o → m[q]? = some (o.out (j :: refs)) ∧ o.ok (n + 1))
    {ls rH : List Loc} (hls : refs.mapM (r[·]?) = some ls) {J : Inp} {h' : List SV} {H' : Mem} (hst' : @St J (opB W r F (j :: refs)) W (l :: (ls ++ rH)) (opM h' os' H') W1) (hon' : os'.length = n) (hok' : ∀ o ∈ os', o.ok (n + 1)) (hP : P' h' H') (hown' : ∀ o ∈ H', o.own = true ∨ o.cells = [])
    {mF : Mem} (e0 : mF.length = m.length) (e1 : mF[j]? = some (absO (hide n P') refs)) (e2 : ∀ (i q : Nat) (o : RO), refs[i]? = some q → os'[i]? = some o → mF[q]? = some (o.out (j :: refs))) (e3 : ∀ k, k ∉ j :: refs → mF[k]? = m[k]?)
    {F2 : Nat → List Nat} (hF2 : Hid (opB W r F (j :: refs)) (l :: (ls ++ rH)) (opM h' os' H') W1 F2) :
    @St I base w0 r mF W1 ∧ ∃ F3, Hid base r mF W1 F3 ∧ (∀ k, k ∉ j :: refs → F3 k = F k) ∧ (∀ k, k ∉ j :: refs → ∀ b ∈ F k, ¬ opB W r F (j :: refs) b) ∧ (∀ (k : Nat) (lk : Loc) (o : SObj), k ∉ j :: refs → r[k]? = some lk → mF[k]? = some o → (o.own = true ∨ o.cells ≠ []) → ¬ opB W r F (j :: refs) lk.blk) ∧
      (∀ k, k ∈ j :: refs → ∀ b ∈ F3 k, (∃ (y : Nat) (ly : Loc) (oy : SObj), (l :: (ls ++ rH))[y]? = some ly ∧ (opM h' os' H')[y]? = some oy ∧ oy.own = true ∧ b = ly.blk) ∨ ∃ y, b ∈ F2 y) ∧
      (∀ k, k ∈ j :: refs → ∀ lk, r[k]? = some lk → ∃ (y : Nat) (oy : SObj), (l :: (ls ++ rH))[y]? = some lk ∧ (opM h' os' H')[y]? = some oy ∧ oy.own = true) ∧ (∀ b, opB W r F (j :: refs) b → base b) := by
  have inj := nodup_ren hnd
  obtain ⟨hlsn', hlsg⟩ := mapM_get hls
  have hlsn : ls.length = n := by omega
  have rj : ∀ i : Nat, i < n → ∃ (q : Nat) (o o' : RO) (lq : Loc), refs[i]? = some q ∧ os[i]? = some o ∧ os'[i]? = some o' ∧ ls[i]? = some lq ∧ r[q]? = some lq ∧ m[q]? = some (o.out (j :: refs)) ∧ mF[q]? = some (o'.out (j :: refs)) ∧ o'.ok (n + 1) ∧ q ≠ j := by
    intro i hi
    obtain ⟨q, hq⟩ : ∃ q, refs[i]? = some q := ⟨_, List.getElem?_eq_getElem (by omega)⟩
    obtain ⟨o, ho⟩ : ∃ o, os[i]? = some o := ⟨_, List.getElem?_eq_getElem (by omega)⟩
    obtain ⟨o', ho'⟩ : ∃ o, os'[i]? = some o := ⟨_, List.getElem?_eq_getElem (by omega)⟩
    obtain ⟨lq, hlq⟩ : ∃ lq, ls[i]? = some lq := ⟨_, List.getElem?_eq_getElem (by omega)⟩
    refine ⟨q, o, o', lq, hq, ho, ho', hlq, by rw [(hlsg i q hq).1, hlq], (hos i q o hq ho).1, e2 i q o' hq ho', hok' _ (List.mem_of_getElem? ho'), fun e => ?_⟩
    rw [List.nodup_cons] at hnd
    exact hnd.1 (e ▸ List.mem_of_getElem? hq)
  have hgo : ∀ x ∈ j :: refs, ∃ o, m[x]? = some o ∧ o.own = true := by
    intro x hx
    rcases List.mem_cons.1 hx with rfl | hx
    · exact ⟨_, hm, rfl⟩
    · obtain ⟨i, hi⟩ := List.getElem?_of_mem hx
      obtain ⟨q, o, o', lq, a1, _, _, _, _, a2, _⟩ := rj i (by have := (List.getElem?_eq_some_iff.1 hi).1; omega)
      rw [hi] at a1; injection a1 with a1; subst a1
      exact ⟨_, a2, RO.out_own⟩
  have hB : ∀ b, opB W r F (j :: refs) b → base b := fun b hb => @opB_base _ _ _ _ _ I hst _ hF _ hgo _ hb
  have hlow' := @St.low J _ _ _ _ _ hst'
  have hlow : Low base W W1 := ⟨hlow'.os, hlow'.tape, hlow'.output, hlow'.size, fun k hk hb => hlow'.block k hk fun h => hb (hB k h), hlow'.shape⟩
  have kin : ∀ k : Nat, k ∈ j :: refs → k = j ∨ ∃ i, i < n ∧ refs[i]? = some k := by
    intro k hk
    rcases List.mem_cons.1 hk with rfl | hk
    · exact .inl rfl
    · obtain ⟨i, hi⟩ := List.getElem?_of_mem hk
      exact .inr ⟨i, by have := (List.getElem?_eq_some_iff.1 hi).1; omega, hi⟩
  -- what lies elsewhere is as it was
  have far1 : ∀ (k : Nat) (lk : Loc) (o : SObj), k ∉ j :: refs → r[k]? = some lk → m[k]? = some o → (o.own = true ∨ o.cells ≠ []) → ¬ opB W r F (j :: refs) lk.blk := by
    intro k lk o hk h1 h2 hal hb
    rcases hb with hb | ⟨x, hx, hb⟩
    · have := @St.locs _ _ _ _ _ I hst lk (List.mem_of_getElem? h1); omega
    · obtain ⟨ox, hox, howx⟩ := hgo x hx
      rcases hb with ⟨lx, h3, h4⟩ | hb
      · exact @St.sep I _ _ _ _ _ hst x k lx lk ox o h3 h1 hox h2 (fun e => hk (e ▸ hx)) howx hal h4.symm
      · exact hF.far x _ hb k lk o h1 h2 hal rfl
  have far2 : ∀ (k b : Nat), k ∉ j :: refs → b ∈ F k → ¬ opB W r F (j :: refs) b := by
    intro k b hk hb hbb
    rcases hbb with hbb | ⟨x, hx, hbb⟩
    · have := (hF.base k b hb).2; omega
    · obtain ⟨ox, hox, howx⟩ := hgo x hx
      rcases hbb with ⟨lx, h3, h4⟩ | hbb
      · exact hF.far k b hb x lx ox h3 hox (.inl howx) h4.symm
      · exact hk (hF.apart k x b hb hbb ▸ hx)
  have keep : ∀ b, b < W.heap.size → ¬ opB W r F (j :: refs) b → W1.heap[b]? = W.heap[b]? := fun b h1 h2 => hlow'.block b h1 h2
  have R0 : (l :: (ls ++ rH))[0]? = some l := rfl
  have Rr : ∀ i, i < n → (l :: (ls ++ rH))[i + 1]? = ls[i]? := fun i hi => refs_get hlsn hi
  have hR : ∀ x, x < n + 1 → (l :: (ls ++ rH))[x]? = r[ren (j :: refs) x]? := by
    intro x hx
    cases x with
    | zero => rw [ren_0]; simp [hl]
    | succ x =>
      obtain ⟨q, o, o', lq, a1, a2, a3, a4, a5, _⟩ := rj x (by omega)
      rw [ren_s a1, Rr x (by omega), a4, a5]
  have obj' := @St.obj J _ _ _ _ _ hst'
  have sep' := @St.sep J _ _ _ _ _ hst'
  have len' : (l :: (ls ++ rH)).length = (opM h' os' H').length := @St.len J _ _ _ _ _ hst'
  have hrH : rH.length = H'.length := by simp [opM] at len'; omega
  -- hidden now
  have hidc : ∀ (k : Nat) (o : SObj), n < k → (opM h' os' H')[k]? = some o → o ∈ H' := by
    intro k o hk ho
    rcases opM_cases ho with ⟨rfl, _⟩ | ⟨i, q, hq, rfl, _⟩ | ⟨i, rfl, hi⟩
    · omega
    · have := (List.getElem?_eq_some_iff.1 hq).1; omega
    · exact List.mem_of_getElem? hi
  let fpN : List Nat := (List.range (l :: (ls ++ rH)).length).flatMap fun k => if n < k then (match (l :: (ls ++ rH))[k]?, (opM h' os' H')[k]? with | some lk, some o => if o.own = true then [lk.blk] else [] | _, _ => []) ++ F2 k else []
  have fpm : ∀ b, b ∈ fpN ↔ ∃ k, k < (l :: (ls ++ rH)).length ∧ n < k ∧ ((∃ lk o, (l :: (ls ++ rH))[k]? = some lk ∧ (opM h' os' H')[k]? = some o ∧ o.own = true ∧ b = lk.blk) ∨ b ∈ F2 k) := by
    intro b
    simp only [fpN, List.mem_flatMap, List.mem_range]
    constructor
    · rintro ⟨k, hk, hb⟩
      split at hb
      · rename_i hn
        refine ⟨k, hk, hn, ?_⟩
        rcases List.mem_append.1 hb with hb | hb
        · split at hb
          · rename_i lk o h1 h2
            split at hb
            · rename_i ho
              simp at hb
              exact .inl ⟨lk, o, h1, h2, ho, hb⟩
            · simp at hb
          · simp at hb
        · exact .inr hb
      · simp at hb
    · rintro ⟨k, hk, hn, hb⟩
      refine ⟨k, hk, ?_⟩
      rw [if_pos hn]
      rcases hb with ⟨lk, o, h1, h2, ho, rfl⟩ | hb
      · simp [h1, h2, ho]
      · simp [hb]
  have fpB : ∀ b, b ∈ fpN → opB W r F (j :: refs) b ∧ b < W1.heap.size := by
    intro b hb
    obtain ⟨k, _, _, hb⟩ := (fpm b).1 hb
    rcases hb with ⟨lk, o, h1, h2, ho, rfl⟩ | hb
    · exact ⟨(obj' k lk o h1 h2).own ho, (obj' k lk o h1 h2).lt⟩
    · exact hF2.base k b hb
  have op0 : (opM h' os' H')[0]? = some ⟨true, h'⟩ := rfl
  have hide' : HideIs n P' ls l fpN W1 h' H' rH (fun k => if n < k ∧ k < (l :: (ls ++ rH)).length then F2 k else []) := by
    have mm : ∀ k, (k = 0 ∨ n < k) → (hidM n h' H')[k]? = (opM h' os' H')[k]? := fun k hk => hidM_op hon' hk
    have own0 : ∀ (k : Nat) (o : SObj), (hidM n h' H')[k]? = some o → o.own = true → k = 0 ∨ n < k := by
      intro k o hk ho
      rcases hidM_cases hk with ⟨rfl, _⟩ | ⟨i, _, rfl, rfl⟩ | ⟨i, rfl, _⟩
      · exact .inl rfl
      · simp at ho
      · exact .inr (by omega)
    refine ⟨hP, hlsn, hrH, hown', fun k lk o h1 h2 hk => ?_, fun k lk o h1 h2 hk ho => ?_, fun k k' l1 l2 o o' h1 h1' h2 h2' hne ho ho' => ?_, fun k lk o h1 h2 => ?_, fun k b hb => ?_, fun k b hb k' l1 o h1 h2 ho => ?_, fun k k' b hb hb' => ?_⟩
    · rw [mm k hk] at h2
      have hO := obj' k lk o h1 h2
      refine ⟨hO.there, hO.fits, fun ho => ?_, hO.lt, hO.ext⟩
      rcases hk with rfl | hk
      · rw [R0] at h1; injection h1 with h1; exact .inl (by rw [h1])
      · exact .inr ((fpm _).2 ⟨k, (List.getElem?_eq_some_iff.1 h1).1, hk, .inl ⟨lk, o, h1, h2, ho, rfl⟩⟩)
    · rw [mm k (.inr hk)] at h2
      exact (fpm _).2 ⟨k, (List.getElem?_eq_some_iff.1 h1).1, hk, .inl ⟨lk, o, h1, h2, ho, rfl⟩⟩
    · have hk := own0 k o h2 ho
      have hk' := own0 k' o' h2' ho'
      rw [mm k hk] at h2
      rw [mm k' hk'] at h2'
      exact sep' k k' l1 l2 o o' h1 h1' h2 h2' hne ho (.inl ho')
    · cases ha : o.isA with
      | false => exact HidIs.not ha
      | true =>
        have hk : n < k := by
          rcases hidM_cases h2 with ⟨rfl, rfl⟩ | ⟨i, _, rfl, rfl⟩ | ⟨i, rfl, _⟩
          · simp at ha
          · simp at ha
          · omega
        rw [mm k (.inr hk)] at h2
        simp only [if_pos (show n < k ∧ k < (l :: (ls ++ rH)).length from ⟨hk, (List.getElem?_eq_some_iff.1 h1).1⟩)]
        exact hF2.is k lk o h1 h2
    · split at hb
      · rename_i hk
        exact ⟨hk.1, (fpm _).2 ⟨k, hk.2, hk.1, .inr hb⟩⟩
      · simp at hb
    · have hk := own0 k' o h2 ho
      rw [mm k' hk] at h2
      split at hb
      · exact hF2.far k b hb k' l1 o h1 h2 (.inl ho)
      · simp at hb
    · split at hb
      · split at hb'
        · exact hF2.apart k k' b hb hb'
        · simp at hb'
      · simp at hb
  -- the objects of the caller's memory now
  have obF : ∀ (k : Nat) (o : SObj), mF[k]? = some o → (k = j ∧ o = absO (hide n P') refs) ∨ (∃ (i : Nat) (o' : RO) (lq : Loc), i < n ∧ refs[i]? = some k ∧ os'[i]? = some o' ∧ ls[i]? = some lq ∧ r[k]? = some lq ∧ o'.ok (n + 1) ∧ k ≠ j ∧ o = o'.out (j :: refs)) ∨ (k ∉ j :: refs ∧ m[k]? = some o) := by
    intro k o hk
    by_cases hg : k ∈ j :: refs
    · rcases kin k hg with rfl | ⟨i, hi, hq⟩
      · rw [e1] at hk; injection hk with hk; exact .inl ⟨rfl, hk.symm⟩
      · obtain ⟨q, o1, o2, lq, a1, a2, a3, a4, a5, a6, a7, a8, a9⟩ := rj i hi
        rw [hq] at a1; injection a1 with a1; subst a1
        rw [a7] at hk; injection hk with hk
        exact .inr (.inl ⟨i, o2, lq, hi, hq, a3, a4, a5, a8, a9, hk.symm⟩)
    · rw [e3 k hg] at hk; exact .inr (.inr ⟨hg, hk⟩)
  have oldO : ∀ (k : Nat) (o : SObj), mF[k]? = some o → ∃ o0, m[k]? = some o0 ∧ (o.own = true → o0.own = true) ∧ ((o.own = true ∨ o.cells ≠ []) → (o0.own = true ∨ o0.cells ≠ [])) := by
    intro k o hk
    by_cases hg : k ∈ j :: refs
    · obtain ⟨o0, h1, h2⟩ := hgo k hg
      exact ⟨o0, h1, fun _ => h2, fun _ => .inl h2⟩
    · rw [e3 k hg] at hk
      exact ⟨o, hk, id, id⟩
  classical
  let F3 : Nat → List Nat := fun k => if k = j then fpN else if k ∈ refs then F2 (refs.idxOf k + 1) else F k
  have F3j : F3 j = fpN := by simp only [F3, if_true]
  have F3r : ∀ (i q : Nat), refs[i]? = some q → F3 q = F2 (i + 1) := by
    intro i q hq
    have hqj : q ≠ j := fun e => by rw [List.nodup_cons] at hnd; exact hnd.1 (e ▸ List.mem_of_getElem? hq)
    have hmem := List.mem_of_getElem? hq
    have hidx : refs[refs.idxOf q]? = some q := by
      rw [List.getElem?_eq_getElem (List.idxOf_lt_length_of_mem hmem), List.getElem_idxOf]
    simp only [F3, if_neg hqj, if_pos hmem]
    rw [inj _ _ q hidx hq]
  have F3o : ∀ k, k ∉ j :: refs → F3 k = F k := by
    intro k hk
    simp only [List.mem_cons, not_or] at hk
    simp only [F3, if_neg hk.1, if_neg hk.2]
  have F3B : ∀ k, k ∈ j :: refs → ∀ b ∈ F3 k, opB W r F (j :: refs) b ∧ b < W1.heap.size := by
    intro k hk b hb
    rcases kin k hk with rfl | ⟨i, hi, hq⟩
    · rw [F3j] at hb; exact fpB b hb
    · rw [F3r i k hq] at hb; exact hF2.base _ b hb
  have hH3 : Hid base r mF W1 F3 := by
    refine ⟨fun k lk o h1 h2 => ?_, fun k b hb => ?_, fun k b hb k' lk o h1 h2 hal => ?_, fun k k' b hb hb' => ?_⟩
    · rcases obF k o h2 with ⟨rfl, rfl⟩ | ⟨i, o', lq, hi, hq, a1, a2, a3, a4, a5, rfl⟩ | ⟨hg, h3⟩
      · rw [hl] at h1; injection h1 with h1; subst h1
        rw [F3j, absO_hid]
        exact ⟨ls, hls, h', H', rH, _, hide'⟩
      · rw [a3] at h1; injection h1 with h1; subst h1
        rw [F3r i k hq, RO.hid (g := j :: refs) a4 hR]
        exact hF2.is (i + 1) lq _ (by rw [Rr i hi, a2]) (opM_ref a1)
      · rw [F3o k hg]
        cases ha : o.isA with
        | false => exact HidIs.not ha
        | true =>
          have hO := @St.obj I _ _ _ _ _ hst k lk o h1 h3
          have hoo := hO.isA_own ha
          refine (hF.is k lk o h1 h3).same hlow.size fun b hb => ?_
          rcases List.mem_cons.1 hb with rfl | hb
          · exact keep _ hO.lt (far1 k lk o hg h1 h3 (.inl hoo))
          · exact keep _ (hF.base k b hb).2 (far2 k b hg hb)
    · by_cases hg : k ∈ j :: refs
      · have := F3B k hg b hb
        exact ⟨hB b this.1, this.2⟩
      · rw [F3o k hg] at hb
        exact ⟨(hF.base k b hb).1, Nat.lt_of_lt_of_le (hF.base k b hb).2 hlow.size⟩
    · by_cases hg : k ∈ j :: refs
      · by_cases hg' : k' ∈ j :: refs
        · -- both are the hider's, or what it leads to
          have loc' : ∃ x o', (l :: (ls ++ rH))[x]? = some lk ∧ (opM h' os' H')[x]? = some o' ∧ o'.own = true ∧ x ≤ n := by
            rcases kin k' hg' with rfl | ⟨i, hi, hq⟩
            · rw [hl] at h1; injection h1 with h1; subst h1
              exact ⟨0, _, R0, op0, rfl, by omega⟩
            · obtain ⟨q, o1, o2, lq', b1, b2, b3, b4, b5, b6, b7, b8, b9⟩ := rj i hi
              rw [hq] at b1; injection b1 with b1; subst b1
              rw [b5] at h1; injection h1 with h1; subst h1
              exact ⟨i + 1, _, by rw [Rr i hi, b4], opM_ref b3, RO.loc_own, by omega⟩
          obtain ⟨x, ox, x1, x2, x3, x4⟩ := loc'
          rcases kin k hg with rfl | ⟨i, hi, hq⟩
          · rw [F3j] at hb
            obtain ⟨y, _, hy, hb⟩ := (fpm b).1 hb
            rcases hb with ⟨ly, oy, y1, y2, y3, rfl⟩ | hb
            · exact sep' x y lk ly ox oy x1 y1 x2 y2 (by omega) x3 (.inl y3)
            · exact hF2.far y b hb x lk ox x1 x2 (.inl x3)
          · rw [F3r i k hq] at hb
            exact hF2.far _ b hb x lk ox x1 x2 (.inl x3)
        · rw [e3 k' hg'] at h2
          intro e
          exact far1 k' lk o hg' h1 h2 hal (e ▸ (F3B k hg b hb).1)
      · rw [F3o k hg] at hb
        obtain ⟨o0, q1, _, q3⟩ := oldO k' o h2
        exact hF.far k b hb k' lk o0 h1 q1 (q3 hal)
    · by_cases hg : k ∈ j :: refs
      · by_cases hg' : k' ∈ j :: refs
        · have tag : ∀ k, k ∈ j :: refs → ∀ b, b ∈ F3 k → (k = j ∧ ((∃ y ly oy, n < y ∧ (l :: (ls ++ rH))[y]? = some ly ∧ (opM h' os' H')[y]? = some oy ∧ oy.own = true ∧ b = ly.blk) ∨ ∃ y, n < y ∧ b ∈ F2 y)) ∨ ∃ i, i < n ∧ refs[i]? = some k ∧ b ∈ F2 (i + 1) := by
            intro k hk b hb
            rcases kin k hk with rfl | ⟨i, hi, hq⟩
            · rw [F3j] at hb
              obtain ⟨y, _, hy, hb⟩ := (fpm b).1 hb
              rcases hb with ⟨ly, oy, y1, y2, y3, e⟩ | hb
              · exact .inl ⟨rfl, .inl ⟨y, ly, oy, hy, y1, y2, y3, e⟩⟩
              · exact .inl ⟨rfl, .inr ⟨y, hy, hb⟩⟩
            · rw [F3r i k hq] at hb; exact .inr ⟨i, hi, hq, hb⟩
          rcases tag k hg b hb with ⟨rfl, t1⟩ | ⟨i, hi, hq, t1⟩ <;> rcases tag k' hg' b hb' with ⟨rfl, t2⟩ | ⟨i', hi', hq', t2⟩
          · rfl
          · rcases t1 with ⟨y, ly, oy, hy, y1, y2, y3, e⟩ | ⟨y, hy, t1⟩
            · exact (hF2.far _ b t2 y ly oy y1 y2 (.inl y3) e.symm).elim
            · have := hF2.apart _ _ b t1 t2; omega
          · rcases t2 with ⟨y, ly, oy, hy, y1, y2, y3, e⟩ | ⟨y, hy, t2⟩
            · exact (hF2.far _ b t1 y ly oy y1 y2 (.inl y3) e.symm).elim
            · have := hF2.apart _ _ b t1 t2; omega
          · have := hF2.apart _ _ b t1 t2
            have : i = i' := by omega
            subst this
            rw [hq] at hq'; injection hq'
        · rw [F3o k' hg'] at hb'
          exact (far2 k' b hg' hb' (F3B k hg b hb).1).elim
      · by_cases hg' : k' ∈ j :: refs
        · rw [F3o k hg] at hb
          exact (far2 k b hg hb (F3B k' hg' b hb').1).elim
        · rw [F3o k hg] at hb
          rw [F3o k' hg'] at hb'
          exact hF.apart k k' b hb hb'
  have locs' : ∀ k, k ∈ j :: refs → ∀ lk, r[k]? = some lk → ∃ (y : Nat) (oy : SObj), (l :: (ls ++ rH))[y]? = some lk ∧ (opM h' os' H')[y]? = some oy ∧ oy.own = true := by
    intro k hk lk h1
    rcases kin k hk with rfl | ⟨i, hi, hq⟩
    · rw [hl] at h1; injection h1 with h1; subst h1
      exact ⟨0, _, R0, op0, rfl⟩
    · obtain ⟨q, o1, o2, lq', b1, b2, b3, b4, b5, b6, b7, b8, b9⟩ := rj i hi
      rw [hq] at b1; injection b1 with b1; subst b1
      rw [b5] at h1; injection h1 with h1; subst h1
      exact ⟨i + 1, _, by rw [Rr i hi, b4], opM_ref b3, RO.loc_own⟩
  have from' : ∀ k, k ∈ j :: refs → ∀ b ∈ F3 k, (∃ (y : Nat) (ly : Loc) (oy : SObj), (l :: (ls ++ rH))[y]? = some ly ∧ (opM h' os' H')[y]? = some oy ∧ oy.own = true ∧ b = ly.blk) ∨ ∃ y, b ∈ F2 y := by
    intro k hk b hb
    rcases kin k hk with rfl | ⟨i, hi, hq⟩
    · rw [F3j] at hb
      obtain ⟨y, _, hy, hb⟩ := (fpm b).1 hb
      rcases hb with ⟨ly, oy, y1, y2, y3, e⟩ | hb
      · exact .inl ⟨y, ly, oy, y1, y2, y3, e⟩
      · exact .inr ⟨y, hb⟩
    · rw [F3r i k hq] at hb; exact .inr ⟨_, hb⟩
  refine ⟨@St.mk I _ _ _ _ _ ((@St.low I _ _ _ _ _ hst).trans hlow) (@St.from_ I _ _ _ _ _ hst) (@St.inp I _ _ _ _ _ hst) (by rw [e0]; exact @St.len I _ _ _ _ _ hst) (fun k lk o h1 h2 => ?_) (fun k k' l1 l2 o o' h1 h1' h2 h2' hne ho hal => ?_) ⟨F3, hH3⟩, F3, hH3, F3o, fun k hk b hb => far2 k b hk hb, fun k lk o hk h1 h2 hal => far1 k lk o hk h1 (by rw [e3 k hk] at h2; exact h2) hal, from', locs', hB⟩
  · rcases obF k o h2 with ⟨rfl, rfl⟩ | ⟨i, o', lq, hi, hq, a1, a2, a3, a4, a5, rfl⟩ | ⟨hg, h3⟩
    · rw [hl] at h1; injection h1 with h1; subst h1
      have hO := obj' 0 l _ R0 op0
      refine ⟨fun _ _ => ?_, Nat.zero_le _, fun _ => (@St.obj I _ _ _ _ _ hst k l _ hl hm).own rfl, hO.lt, rfl⟩
      obtain ⟨c, T, fr, g1, g2, g3, g4⟩ := hO.there rfl (.inl rfl)
      exact ⟨c, T, fr, g1, g2, by simp [absO, SV.IsL], fun _ => g4 rfl⟩
    · rw [a3] at h1; injection h1 with h1; subst h1
      obtain ⟨q, o1, o2, lq', b1, b2, b3, b4, b5, b6, b7, b8, b9⟩ := rj i hi
      rw [hq] at b1; injection b1 with b1; subst b1
      refine RO.obj' a4 (obj' (i + 1) lq _ (by rw [Rr i hi, a2]) (opM_ref a1)) ?_
      exact (@St.obj I _ _ _ _ _ hst k lq _ a3 b6).own RO.out_own
    · have hO := @St.obj I _ _ _ _ _ hst k lk o h1 h3
      by_cases hal : o.own = true ∨ o.cells ≠ []
      · exact hO.same (keep _ hO.lt (far1 k lk o hg h1 h3 hal))
      · rw [hO.isDead (dead_of hal).1 (dead_of hal).2]
        exact .dead (Nat.lt_of_lt_of_le hO.lt hlow.size)
  · obtain ⟨o0, q1, q2, _⟩ := oldO k o h2
    obtain ⟨o0', q1', _, q3'⟩ := oldO k' o' h2'
    exact @St.sep I _ _ _ _ _ hst k k' l1 l2 o0 o0' h1 h1' q1 q1' hne (q2 ho) (q3' hal)
/-- Some objects forgotten. -/
theorem St.weak [Inp] (hst : St base w0 r m W) {F : Nat → List Nat} (hF : Hid base r m W F) {m' : Mem} (hlen : m'.length = m.length) (hw : ∀ (k : Nat) (o o' : SObj), m[k]? = some o → m'[k]? = some o' → o' = o ∨ o' = ⟨false, []⟩) (F' : Nat → List Nat) (hF' : ∀ k, F' k = F k ∨ F' k = [] ∧ ∀ o', m'[k]? = some o' → o'.isA = false) :
    St base w0 r m' W ∧ Hid base r m' W F' := by
  have old : ∀ (k : Nat) (o' : SObj), m'[k]? = some o' → ∃ o, m[k]? = some o ∧ (o' = o ∨ o' = ⟨false, []⟩) := by
    intro k o' h
    have hk : k < m.length := by rw [← hlen]; exact (List.getElem?_eq_some_iff.1 h).1
    exact ⟨_, List.getElem?_eq_getElem hk, hw k _ o' (List.getElem?_eq_getElem hk) h⟩
  have sub : ∀ k b, b ∈ F' k → b ∈ F k := by
    intro k b hb
    rcases hF' k with h | ⟨h, _⟩
    · rw [← h]; exact hb
    · rw [h] at hb; simp at hb
  have hH : Hid base r m' W F' := by
    refine ⟨fun k l o' h1 h2 => ?_, fun k b hb => hF.base k b (sub k b hb), fun k b hb k' l o' h1 h2 hal => ?_, fun k k' b hb hb' => hF.apart k k' b (sub k b hb) (sub k' b hb')⟩
    · obtain ⟨o, h3, h4⟩ := old k o' h2
      rcases h4 with rfl | rfl
      · rcases hF' k with h | ⟨_, h⟩
        · rw [h]; exact hF.is k l _ h1 h3
        · exact HidIs.not (h _ h2)
      · exact HidIs.not rfl
    · obtain ⟨o, h3, h4⟩ := old k' o' h2
      rcases h4 with rfl | rfl
      · exact hF.far k b (sub k b hb) k' l _ h1 h3 hal
      · simp at hal
  refine ⟨⟨hst.low, hst.from_, hst.inp, by rw [hlen]; exact hst.len, fun k l o' h1 h2 => ?_, fun k k' l l' o o' h1 h1' h2 h2' hne ho hal => ?_, F', hH⟩, hH⟩
  · obtain ⟨o, h3, h4⟩ := old k o' h2
    rcases h4 with rfl | rfl
    · exact hst.obj k l _ h1 h3
    · exact .dead (hst.obj k l _ h1 h3).lt
  · obtain ⟨o1, h3, h4⟩ := old k o h2
    obtain ⟨o2, h5, h6⟩ := old k' o' h2'
    rcases h4 with rfl | rfl
    · rcases h6 with rfl | rfl
      · exact hst.sep k k' l l' _ _ h1 h1' h3 h5 hne ho hal
      · simp at hal
    · simp at ho
mutual
theorem un_is {r t : List Loc} : ∀ {s : SV} {u : Value}, (s.up r.length).Is (r ++ t) u → s.Is t u
  | .v x, u, hs => by simpa only [SV.up, SV.Is] using hs
  | .any, u, hs => by simp only [SV.Is]
  | .emp, u, hs => by simpa only [SV.up, SV.Is] using hs
  | .zro, u, hs => by simpa only [SV.up, SV.Is] using hs
  | .mp k, u, hs => by
    simp only [SV.up, SV.Is] at hs ⊢
    obtain ⟨l, h1, h2⟩ := hs
    rw [List.getElem?_append_right (by omega), Nat.add_sub_cancel_left] at h1
    exact ⟨l, h1, h2⟩
  | .ptr k o, u, hs => by
    simp only [SV.up, SV.Is] at hs ⊢
    obtain ⟨l, h1, h2⟩ := hs
    rw [List.getElem?_append_right (by omega), Nat.add_sub_cancel_left] at h1
    exact ⟨l, h1, h2⟩
  | .row k o n sz, u, hs => by
    simp only [SV.up, SV.Is] at hs ⊢
    obtain ⟨l, c, h1, h2⟩ := hs
    rw [List.getElem?_append_right (by omega), Nat.add_sub_cancel_left] at h1
    exact ⟨l, c, h1, h2⟩
  | .agg cs, u, hs => by
    simp only [SV.up, SV.Is] at hs ⊢
    obtain ⟨us, h1, h2⟩ := hs
    exact ⟨us, h1, unL_is h2⟩
  | .tup cs, u, hs => by
    simp only [SV.up, SV.Is] at hs ⊢
    obtain ⟨us, h1, h2⟩ := hs
    exact ⟨us, h1, unL_is h2⟩
  | .fn f cs, u, hs => by
    simp only [SV.up, SV.Is] at hs ⊢
    obtain ⟨us, h1, h2⟩ := hs
    exact ⟨us, h1, unL_is h2⟩
  | .bnd f cs, u, hs => by
    simp only [SV.up, SV.Is] at hs ⊢
    obtain ⟨us, h1, h2⟩ := hs
    exact ⟨us, h1, unL_is h2⟩
theorem unL_is {r t : List Loc} : ∀ {s : List SV} {u : List Value}, SV.IsL (r ++ t) (upL r.length s) u → SV.IsL t s u
  | [], u, hs => by simpa only [upL, SV.IsL] using hs
  | c :: cs, u, hs => by
    simp only [upL, SV.IsL] at hs ⊢
    obtain ⟨x, y, h1, h2, h3⟩ := hs
    exact ⟨x, y, h1, un_is h2, unL_is h3⟩
end
theorem mapsUn_is {r t : List Loc} {d : TypeDesc} : ∀ {n : Nat} {ps : List (Value × SV)} {es : List MapEntry}, MapIs (r ++ t) d n (ps.map fun p => (p.1, p.2.up r.length)) es → MapIs t d n ps es
  | n, [], es, h => h
  | n, p :: ps, es, h => by
    obtain ⟨e, t', rfl, h1, h2, h3, h4, h5⟩ := h
    exact ⟨e, t', rfl, h1, un_is h2, h3, h4, mapsUn_is h5⟩
theorem mapM_un {r t : List Loc} : ∀ {refs : List Nat} {ls : List Loc}, (refs.map (r.length + ·)).mapM ((r ++ t)[·]?) = some ls → refs.mapM (t[·]?) = some ls
  | [], ls, h => h
  | k :: ks, ls, h => by
    rw [List.map_cons, List.mapM_cons] at h
    rw [List.mapM_cons]
    obtain ⟨a, ha, h⟩ := Option.bind_eq_some_iff.1 h
    obtain ⟨b, hb, h⟩ := Option.bind_eq_some_iff.1 h
    rw [List.getElem?_append_right (by omega), Nat.add_sub_cancel_left] at ha
    simp only [ha, mapM_un hb]
    exact h
theorem ExtIs.un {r t : List Loc} {w : World} {l : Loc} {o : SObj} (h : ExtIs (r ++ t) w l (o.up r.length)) : ExtIs t w l o := by
  obtain ⟨own, cells⟩ := o
  rename_i x
  obtain ⟨x⟩ := x
  cases x with
  | no => trivial
  | map kt ps =>
    obtain ⟨⟨h1, h2, h3⟩, es, h4, h5⟩ := (show (_ ∧ _ ∧ _) ∧ ∃ es, _ ∧ _ from h)
    rw [List.length_map] at h4
    have h1' : cells = [] := List.length_eq_zero_iff.1 (by rw [← upL_len r.length]; exact congrArg List.length (show upL r.length cells = [] from h1))
    exact (show (_ ∧ _ ∧ _) ∧ ∃ es, _ ∧ _ from ⟨⟨h1', h2, h3⟩, es, h4, mapsUn_is h5⟩)
  | abs A refs => exact h
theorem HidIs.un {r t : List Loc} {w : World} {l : Loc} {fp : List Nat} {o : SObj} (h : HidIs (r ++ t) w l fp (o.up r.length)) : HidIs t w l fp o := by
  obtain ⟨own, cells⟩ := o
  rename_i x
  obtain ⟨x⟩ := x
  cases x with
  | no => trivial
  | map kt ps => trivial
  | abs A refs =>
    obtain ⟨ls, h2, h3⟩ := (show ∃ ls, _ ∧ _ from h)
    exact (show ∃ ls, _ ∧ _ from ⟨ls, mapM_un h2, h3⟩)
/-- An object of some own part of a memory, elsewhere. -/
theorem ObjAt.shift {base base' : Nat → Prop} {r r' t : List Loc} {w : World} {l : Loc} {o : SObj} (h : ObjAt base (r ++ t) w l (o.up r.length)) (hb : o.own = true → base' l.blk) : ObjAt base' (r' ++ t) w l (o.up r'.length) := by
  obtain ⟨g1, g5, g6, g7, g8⟩ := h
  have hc : ∀ d, (o.up d).cells.length = o.cells.length := fun d => by simp only [SObj.up, upL_len]
  refine ⟨fun hm hal => ?_, by rw [hc]; rw [hc] at g5; exact g5, hb, g7, g8.un.up⟩
  obtain ⟨c, T, fr, g1, g2, g3, g4⟩ := g1 (by rw [isM_up] at hm ⊢; exact hm) (by
    rcases hal with h | h
    · exact .inl h
    · refine .inr fun e => h ?_
      have e2 := congrArg List.length e
      rw [hc] at e2
      exact List.length_eq_zero_iff.1 (by rw [hc]; simpa using e2))
  refine ⟨c, T, fr, g1, g2, ?_, g4⟩
  rw [hc] at g3 ⊢
  exact upL_is (unL_is g3)
/-- An object is shut again, new objects come out of it. -/
theorem St.shutX [I : Inp] (hst : St base w0 r m W) {F : Nat → List Nat} (hF : Hid base r m W F) {j n : Nat} {l : Loc} {A : Abs} {P' : List SV → Mem → Prop} {refs : List Nat} {os os' : List RO} (hl : r[j]? = some l) (hm : m[j]? = some (absO A refs))
    (hnd : (j :: refs).Nodup) (hrn : refs.length = n) (hon : os.length = n) (hos : ∀ (i q : Nat) (o : RO), refs[i]? = some q → os[i]? = some o → m[q]? = some (o.out (j :: refs)) ∧ o.ok (n + 1))
    {ls rH rX : List Loc} (hls : refs.mapM (r[·]?) = some ls) {J : Inp} {h' : List SV} {H' X : Mem} (hX : ∀ o ∈ X, o.own = true) (hrH : rH.length = H'.length)
    (hst' : @St J (opB W r F (j :: refs)) W ((l :: (ls ++ rH)) ++ rX) (opM h' os' H' ++ X.map (SObj.up (opM h' os' H').length)) W1) (hon' : os'.length = n) (hok' : ∀ o ∈ os', o.ok (n + 1)) (hP : P' h' (H' ++ X.map fun _ => ⟨false, []⟩)) (hown' : ∀ o ∈ H', o.own = true ∨ o.cells = [])
    {mF : Mem} (e0 : mF.length = m.length) (e1 : mF[j]? = some (absO (hide n P') refs)) (e2 : ∀ (i q : Nat) (o : RO), refs[i]? = some q → os'[i]? = some o → mF[q]? = some (o.out (j :: refs))) (e3 : ∀ k, k ∉ j :: refs → mF[k]? = m[k]?) :
    @St I base w0 (r ++ rX) (mF ++ X.map (SObj.up m.length)) W1 := by
  obtain ⟨F2o, hF2o⟩ := @St.hid J _ _ _ _ _ hst'
  obtain ⟨hlsn', _⟩ := mapM_get hls
  generalize hR : l :: (ls ++ rH) = R at hst' hF2o
  have hRl : R.length = (opM h' os' H').length := by rw [← hR]; simp [opM]; omega
  have lenX : rX.length = X.length := by
    have := @St.len J _ _ _ _ _ hst'
    simp at this; omega
  generalize hM : opM h' os' H' = M at hst' hF2o hRl
  have hMx : opM h' os' (H' ++ X.map fun _ => (⟨false, []⟩ : SObj)) = M ++ X.map fun _ => ⟨false, []⟩ := by rw [← hM]; simp [opM]
  -- what comes out, forgotten
  have wk := @St.weak _ _ _ _ _ J hst' F2o hF2o (M ++ X.map fun _ => ⟨false, []⟩) (by simp) (fun k o o' q1 q2 => by
    by_cases hk : k < M.length
    · rw [List.getElem?_append_left hk] at q1 q2
      rw [q1] at q2; injection q2 with q2; exact .inl q2.symm
    · rw [List.getElem?_append_right (by omega), List.getElem?_map] at q2
      obtain ⟨_, _, q2⟩ := Option.map_eq_some_iff.1 q2
      exact .inr q2.symm) (fun k => if k < M.length then F2o k else []) (fun k => by
    by_cases hk : k < M.length
    · exact .inl (if_pos hk)
    · refine .inr ⟨if_neg hk, fun o' q2 => ?_⟩
      rw [List.getElem?_append_right (by omega), List.getElem?_map] at q2
      obtain ⟨_, _, q2⟩ := Option.map_eq_some_iff.1 q2
      rw [← q2]; rfl)
  have hR2 : R ++ rX = l :: (ls ++ (rH ++ rX)) := by rw [← hR]; simp
  obtain ⟨hs1, F3, h3, h3o, h3far, h3blk, h3in, h3loc, hB⟩ := @St.shut _ _ _ _ _ _ I hst F hF j n l A P' refs os os' hl hm hnd hrn hon hos ls (rH ++ rX) hls J h' (H' ++ X.map fun _ => ⟨false, []⟩) (by rw [hMx, ← hR2]; exact wk.1) hon' hok' hP (by
    intro o ho
    rcases List.mem_append.1 ho with ho | ho
    · exact hown' o ho
    · obtain ⟨_, _, rfl⟩ := List.mem_map.1 ho; exact .inr rfl) mF e0 e1 e2 e3 _ (by rw [hMx, ← hR2]; exact wk.2)
  rw [hMx, ← hR2] at h3in h3loc
  have obj' := @St.obj J _ _ _ _ _ hst'
  have sep' := @St.sep J _ _ _ _ _ hst'
  -- the new ones in the hider's memory
  have inX : ∀ (i : Nat) (lx : Loc) (o : SObj), rX[i]? = some lx → X[i]? = some o → (R ++ rX)[M.length + i]? = some lx ∧ (M ++ X.map (SObj.up M.length))[M.length + i]? = some (o.up M.length) ∧ (o.up M.length).own = true := by
    intro i lx o q1 q2
    refine ⟨?_, ?_, hX o (List.mem_of_getElem? q2)⟩
    · rw [List.getElem?_append_right (by omega), hRl, Nat.add_sub_cancel_left]; exact q1
    · rw [List.getElem?_append_right (by omega), Nat.add_sub_cancel_left, List.getElem?_map, q2]; rfl
  have Xb : ∀ (i : Nat) (lx : Loc) (o : SObj), rX[i]? = some lx → X[i]? = some o → opB W r F (j :: refs) lx.blk := fun i lx o q1 q2 => by
    obtain ⟨a, b, c⟩ := inX i lx o q1 q2
    exact (obj' _ lx _ a b).own c
  have hml : r.length = m.length := @St.len I _ _ _ _ _ hst
  have hmFl : r.length = mF.length := by rw [e0]; exact hml
  have cs : ∀ (k : Nat) (lk : Loc) (o : SObj), (r ++ rX)[k]? = some lk → (mF ++ X.map (SObj.up m.length))[k]? = some o → (k < r.length ∧ r[k]? = some lk ∧ mF[k]? = some o) ∨ ∃ i o2, k = r.length + i ∧ rX[i]? = some lk ∧ X[i]? = some o2 ∧ o = o2.up m.length := by
    intro k lk o q1 q2
    by_cases hk : k < r.length
    · rw [List.getElem?_append_left hk] at q1
      rw [List.getElem?_append_left (by omega)] at q2
      exact .inl ⟨hk, q1, q2⟩
    · rw [List.getElem?_append_right (by omega)] at q1
      rw [List.getElem?_append_right (by omega), List.getElem?_map] at q2
      obtain ⟨o2, q3, q4⟩ := Option.map_eq_some_iff.1 q2
      exact .inr ⟨k - r.length, o2, by omega, q1, by rw [hmFl]; exact q3, q4.symm⟩
  -- an old object that is alive does not lie where a new one does
  have apart1 : ∀ (k : Nat) (lk : Loc) (o : SObj) (i : Nat) (lx : Loc) (ox : SObj), r[k]? = some lk → mF[k]? = some o → (o.own = true ∨ o.cells ≠ []) → rX[i]? = some lx → X[i]? = some ox → lk.blk ≠ lx.blk := by
    intro k lk o i lx ox q1 q2 hal q3 q4
    by_cases hg : k ∈ j :: refs
    · obtain ⟨y, oy, y1, y2, y3⟩ := h3loc k hg lk q1
      have hy : y < M.length := by
        by_cases hy : y < M.length
        · exact hy
        · rw [List.getElem?_append_right (by omega), List.getElem?_map] at y2
          obtain ⟨_, _, y2⟩ := Option.map_eq_some_iff.1 y2
          rw [← y2] at y3; simp at y3
      rw [List.getElem?_append_left hy] at y2
      obtain ⟨a, b, c⟩ := inX i lx ox q3 q4
      exact sep' y (M.length + i) lk lx oy _ y1 a (by rw [List.getElem?_append_left hy]; exact y2) b (by omega) y3 (.inl c)
    · exact fun e => h3blk k lk o hg q1 q2 hal (e ▸ Xb i lx ox q3 q4)
  have apart2 : ∀ (k b : Nat) (i : Nat) (lx : Loc) (ox : SObj), b ∈ F3 k → rX[i]? = some lx → X[i]? = some ox → lx.blk ≠ b := by
    intro k b i lx ox hb q3 q4
    obtain ⟨a, b2, c⟩ := inX i lx ox q3 q4
    by_cases hg : k ∈ j :: refs
    · rcases h3in k hg b hb with ⟨y, ly, oy, y1, y2, y3, rfl⟩ | ⟨y, hy⟩
      · have hy : y < M.length := by
          by_cases hy : y < M.length
          · exact hy
          · rw [List.getElem?_append_right (by omega), List.getElem?_map] at y2
            obtain ⟨_, _, y2⟩ := Option.map_eq_some_iff.1 y2
            rw [← y2] at y3; simp at y3
        rw [List.getElem?_append_left hy] at y2
        exact sep' (M.length + i) y lx ly _ oy a y1 b2 (by rw [List.getElem?_append_left hy]; exact y2) (by omega) c (.inl y3)
      · split at hy
        · exact hF2o.far y b hy _ lx _ a b2 (.inl c)
        · simp at hy
    · rw [h3o k hg] at hb
      exact fun e => h3far k hg b hb (e ▸ Xb i lx ox q3 q4)
  have apart3 : ∀ (k b i : Nat), b ∈ F3 k → b ∈ F2o (M.length + i) → False := by
    intro k b i hb hb2
    by_cases hg : k ∈ j :: refs
    · rcases h3in k hg b hb with ⟨y, ly, oy, y1, y2, y3, rfl⟩ | ⟨y, hy⟩
      · have hy : y < M.length := by
          by_cases hy : y < M.length
          · exact hy
          · rw [List.getElem?_append_right (by omega), List.getElem?_map] at y2
            obtain ⟨_, _, y2⟩ := Option.map_eq_some_iff.1 y2
            rw [← y2] at y3; simp at y3
        rw [List.getElem?_append_left hy] at y2
        exact hF2o.far _ _ hb2 y ly oy y1 (by rw [List.getElem?_append_left hy]; exact y2) (.inl y3) rfl
      · split at hy
        · have := hF2o.apart _ _ b hy hb2; omega
        · simp at hy
    · rw [h3o k hg] at hb
      exact h3far k hg b hb (hF2o.base _ b hb2).1
  have apart4 : ∀ (k : Nat) (lk : Loc) (o : SObj) (i b : Nat), r[k]? = some lk → mF[k]? = some o → (o.own = true ∨ o.cells ≠ []) → b ∈ F2o (M.length + i) → lk.blk ≠ b := by
    intro k lk o i b q1 q2 hal hb
    by_cases hg : k ∈ j :: refs
    · obtain ⟨y, oy, y1, y2, y3⟩ := h3loc k hg lk q1
      have hy : y < M.length := by
        by_cases hy : y < M.length
        · exact hy
        · rw [List.getElem?_append_right (by omega), List.getElem?_map] at y2
          obtain ⟨_, _, y2⟩ := Option.map_eq_some_iff.1 y2
          rw [← y2] at y3; simp at y3
      rw [List.getElem?_append_left hy] at y2
      exact hF2o.far _ b hb y lk oy y1 (by rw [List.getElem?_append_left hy]; exact y2) (.inl y3)
    · exact fun e => h3blk k lk o hg q1 q2 hal (e ▸ (hF2o.base _ b hb).1)
  refine @St.mk I _ _ _ _ _ (@St.low I _ _ _ _ _ hs1) (@St.from_ I _ _ _ _ _ hs1) (@St.inp I _ _ _ _ _ hs1) (by simp [hmFl, lenX]) (fun k lk o q1 q2 => ?_) (fun k k' l1 l2 o o' q1 q1' q2 q2' hne ho hal => ?_)
    ⟨fun k => if k < r.length then F3 k else F2o (M.length + (k - r.length)), fun k lk o q1 q2 => ?_, fun k b hb => ?_, fun k b hb k' lk o q1 q2 hal => ?_, fun k k' b hb hb' => ?_⟩
  · rcases cs k lk o q1 q2 with ⟨hk, a1, a2⟩ | ⟨i, o2, rfl, a1, a2, rfl⟩
    · exact (@St.obj I _ _ _ _ _ hs1 k lk o a1 a2).grow rX
    · obtain ⟨b1, b2, b3⟩ := inX i lk o2 a1 a2
      have hO := obj' _ lk _ b1 b2
      rw [← hRl] at hO
      have := ObjAt.shift (r' := r) hO (base' := base) (fun _ => hB _ (Xb i lk o2 a1 a2))
      rw [hml] at this
      exact this
  · rcases cs k l1 o q1 q2 with ⟨hk, a1, a2⟩ | ⟨i, o2, rfl, a1, a2, rfl⟩ <;> rcases cs k' l2 o' q1' q2' with ⟨hk', b1, b2⟩ | ⟨i', o3, rfl, b1, b2, rfl⟩
    · exact @St.sep I _ _ _ _ _ hs1 k k' l1 l2 o o' a1 b1 a2 b2 hne ho hal
    · exact apart1 k l1 o i' l2 o3 a1 a2 (.inl ho) b1 b2
    · exact fun e => apart1 k' l2 o' i l1 o2 b1 b2 hal a1 a2 e.symm
    · obtain ⟨c1, c2, c3⟩ := inX i l1 o2 a1 a2
      obtain ⟨d1, d2, d3⟩ := inX i' l2 o3 b1 b2
      exact sep' _ _ l1 l2 _ _ c1 d1 c2 d2 (by omega) c3 (.inl d3)
  · rcases cs k lk o q1 q2 with ⟨hk, a1, a2⟩ | ⟨i, o2, rfl, a1, a2, rfl⟩
    · simp only [if_pos hk]
      exact (h3.is k lk o a1 a2).grow rX
    · obtain ⟨b1, b2, b3⟩ := inX i lk o2 a1 a2
      simp only [if_neg (show ¬ r.length + i < r.length by omega), Nat.add_sub_cancel_left]
      have := hF2o.is _ lk _ b1 b2
      rw [← hRl] at this
      have := (this.un).up (r := r)
      rw [hml, hRl] at this
      exact this
  · split at hb
    · exact h3.base k b hb
    · have := hF2o.base _ b hb
      exact ⟨hB b this.1, this.2⟩
  · split at hb
    · rcases cs k' lk o q1 q2 with ⟨hk', a1, a2⟩ | ⟨i, o2, rfl, a1, a2, rfl⟩
      · exact h3.far k b hb k' lk o a1 a2 hal
      · exact apart2 k b i lk o2 hb a1 a2
    · rcases cs k' lk o q1 q2 with ⟨hk', a1, a2⟩ | ⟨i, o2, rfl, a1, a2, rfl⟩
      · exact apart4 k' lk o _ b a1 a2 hal hb
      · obtain ⟨b1, b2, b3⟩ := inX i lk o2 a1 a2
        exact hF2o.far _ b hb _ lk _ b1 b2 (.inl b3)
  · split at hb
    · split at hb'
      · exact h3.apart k k' b hb hb'
      · exact (apart3 k b _ hb hb').elim
    · split at hb'
      · exact (apart3 k' b _ hb' hb).elim
      · have := hF2o.apart _ _ b hb hb'
        omega
end
end Go.Proofs.Ytibefgdjijmncaa.Sz
