/- Walks and plain facts for the law ImageBytes, part MIBD. No condition. -/
import Derived.Test.YtibefgdjijmncaaMIBC
import Derived.Laws.LoneSync
import Derived.Test.YtibefgdjijmncaaProg
import Derived.Tactics
import Derived.Tactics2
import Derived.Defers
import Derived.Laws.Pointers
import Derived.RegionTactic
import Derived.RegionCalls
set_option linter.unusedVariables false
set_option linter.unusedSimpArgs false
section
namespace Go.Proofs.Ytibefgdjijmncaa.Sz
open Go.RowKit
set_option maxHeartbeats 2000000
theorem ObjAt.mono {base base' : Nat → Prop} {r : List Loc} {w : World} {l : Loc} {o : SObj} (h : ObjAt base r w l o) (hb : base l.blk → base' l.blk) : ObjAt base' r w l o :=
  ⟨h.there, h.fits, fun ho => hb (h.own ho), h.lt, h.ext⟩
/-- Objects: the hider's own cells, what it leads to (dead here), what is hidden. -/
def hidM (n : Nat) (h : List SV) (H : Mem) : Mem := ⟨true, h⟩ :: (List.replicate n ⟨false, []⟩ ++ H)
theorem hidM_0 {n : Nat} {h : List SV} {H : Mem} : (hidM n h H)[0]? = some ⟨true, h⟩ := rfl
theorem hidM_ref {n : Nat} {h : List SV} {H : Mem} {i : Nat} (hi : i < n) : (hidM n h H)[i + 1]? = some ⟨false, []⟩ := by
  unfold hidM
  rw [List.getElem?_cons_succ, List.getElem?_append_left (by simpa using hi), List.getElem?_replicate, if_pos hi]
theorem hidM_hid {n : Nat} {h : List SV} {H : Mem} {i : Nat} : (hidM n h H)[n + 1 + i]? = H[i]? := by
  unfold hidM
  rw [show n + 1 + i = (n + i) + 1 by omega, List.getElem?_cons_succ, List.getElem?_append_right (by simp)]
  simp
theorem hidM_cases {n : Nat} {h : List SV} {H : Mem} {k : Nat} {o : SObj} (hk : (hidM n h H)[k]? = some o) : (k = 0 ∧ o = ⟨true, h⟩) ∨ (∃ i, i < n ∧ k = i + 1 ∧ o = ⟨false, []⟩) ∨ ∃ i, k = n + 1 + i ∧ H[i]? = some o := by
  match k with
  | 0 => rw [hidM_0] at hk; injection hk with hk; exact .inl ⟨rfl, hk.symm⟩
  | i + 1 =>
    by_cases hi : i < n
    · rw [hidM_ref hi] at hk; injection hk with hk; exact .inr (.inl ⟨i, hi, rfl, hk.symm⟩)
    · refine .inr (.inr ⟨i - n, by omega, ?_⟩)
      rw [← hk, ← hidM_hid (n := n) (h := h)]
      congr 1
      omega
structure HideIs (n : Nat) (P : List SV → Mem → Prop) (ls : List Loc) (l : Loc) (fp : List Nat) (w : World) (h : List SV) (H : Mem) (rH : List Loc) (F : Nat → List Nat) : Prop where
  is : P h H
  lsl : ls.length = n
  len : rH.length = H.length
  own : ∀ o ∈ H, o.own = true ∨ o.cells = []
  obj : ∀ (k : Nat) (lk : Loc) (o : SObj), (l :: (ls ++ rH))[k]? = some lk → (hidM n h H)[k]? = some o → (k = 0 ∨ n < k) → ObjAt (fun b => b = l.blk ∨ b ∈ fp) (l :: (ls ++ rH)) w lk o
  blk : ∀ (k : Nat) (lk : Loc) (o : SObj), (l :: (ls ++ rH))[k]? = some lk → (hidM n h H)[k]? = some o → n < k → o.own = true → lk.blk ∈ fp
  sep : ∀ (k k' : Nat) (l1 l2 : Loc) (o o' : SObj), (l :: (ls ++ rH))[k]? = some l1 → (l :: (ls ++ rH))[k']? = some l2 → (hidM n h H)[k]? = some o → (hidM n h H)[k']? = some o' → k ≠ k' → o.own = true → o'.own = true → l1.blk ≠ l2.blk
  hid : ∀ (k : Nat) (lk : Loc) (o : SObj), (l :: (ls ++ rH))[k]? = some lk → (hidM n h H)[k]? = some o → HidIs (l :: (ls ++ rH)) w lk (F k) o
  sub : ∀ k, ∀ b ∈ F k, n < k ∧ b ∈ fp
  far : ∀ k, ∀ b ∈ F k, ∀ (k' : Nat) (l1 : Loc) (o : SObj), (l :: (ls ++ rH))[k']? = some l1 → (hidM n h H)[k']? = some o → o.own = true → l1.blk ≠ b
  apart : ∀ k k', ∀ b ∈ F k, b ∈ F k' → k = k'
/-- What an object hides. -/
def hide (n : Nat) (P : List SV → Mem → Prop) : Abs where
  holds := fun ls l fp w => ∃ h H rH F, HideIs n P ls l fp w h H rH F
  stable := fun ls l fp W W' ⟨h, H, rH, F, a⟩ hsz hs => by
    have hin : ∀ (k : Nat) (lk : Loc) (o : SObj), (l :: (ls ++ rH))[k]? = some lk → (hidM n h H)[k]? = some o → (k = 0 ∨ n < k) → o.own = true → lk.blk ∈ l.blk :: fp := by
      intro k lk o h1 h2 hk ho
      rcases hk with rfl | hk
      · simp at h1; subst h1; simp
      · exact List.mem_cons_of_mem _ (a.blk k lk o h1 h2 hk ho)
    refine ⟨h, H, rH, F, a.is, a.lsl, a.len, a.own, fun k lk o h1 h2 hk => ?_, a.blk, a.sep, fun k lk o h1 h2 => ?_, a.sub, a.far, a.apart⟩
    · have hO := a.obj k lk o h1 h2 hk
      cases ho : o.own with
      | true => exact hO.same (hs _ (hin k lk o h1 h2 hk ho))
      | false =>
        have hc : o.cells = [] := by
          rcases hidM_cases h2 with ⟨_, rfl⟩ | ⟨i, _, rfl, rfl⟩ | ⟨i, rfl, hi⟩
          · simp at ho
          · rfl
          · rcases a.own o (List.mem_of_getElem? hi) with h | h
            · rw [ho] at h; cases h
            · exact h
        rw [hO.isDead ho hc]
        exact .dead (Nat.lt_of_lt_of_le hO.lt hsz)
    · cases ha : o.isA with
      | false => exact HidIs.not ha
      | true =>
        have hk : k = 0 ∨ n < k := by
          rcases hidM_cases h2 with ⟨rfl, _⟩ | ⟨i, _, rfl, rfl⟩ | ⟨i, rfl, hi⟩
          · exact .inl rfl
          · simp at ha
          · exact .inr (by omega)
        have ho := (a.obj k lk o h1 h2 hk).isA_own ha
        refine (a.hid k lk o h1 h2).same hsz fun b hb => hs b ?_
        rcases List.mem_cons.1 hb with rfl | hb
        · exact hin k lk o h1 h2 hk ho
        · exact List.mem_cons_of_mem _ (a.sub k b hb).2
def absO (A : Abs) (refs : List Nat) : SObj := @SObj.mk true [] ⟨.abs A refs⟩
theorem absO_own {A : Abs} {refs : List Nat} : (absO A refs).own = true := rfl
theorem absO_hid {r : List Loc} {w : World} {l : Loc} {fp : List Nat} {A : Abs} {refs : List Nat} : HidIs r w l fp (absO A refs) = ∃ ls, refs.mapM (r[·]?) = some ls ∧ A.holds ls l fp w := rfl
/-- An object that a hider leads to: one that hides, or one of plain cells. -/
inductive RO where
  | ab (A : Abs) (refs : List Nat)
  | pl (cs : List SV)
/-- As the hider's memory has it. -/
def RO.loc : RO → SObj
  | .ab A refs => absO A refs
  | .pl cs => ⟨true, cs⟩
def ren (g : List Nat) (k : Nat) : Nat := g.getD k 0
/-- As the caller's memory has it. -/
def RO.out (g : List Nat) : RO → SObj
  | .ab A refs => absO A (refs.map (ren g))
  | .pl cs => ⟨true, cs⟩
def RO.ok (n : Nat) : RO → Prop
  | .ab _ refs => ∀ x ∈ refs, x < n
  | .pl cs => plainL cs = true
theorem RO.loc_own {o : RO} : o.loc.own = true := by cases o <;> rfl
theorem RO.out_own {g : List Nat} {o : RO} : (o.out g).own = true := by cases o <;> rfl
/-- One that says the same in another memory. -/
theorem RO.obj {base base' : Nat → Prop} {r r' : List Loc} {w : World} {l : Loc} {o : RO} {g : List Nat} {n : Nat} (hok : o.ok n) (h : ObjAt base r w l (o.out g)) (hb : base' l.blk) : ObjAt base' r' w l o.loc := by
  cases o with
  | ab A refs =>
    refine ⟨fun _ _ => ?_, Nat.zero_le _, fun _ => hb, h.lt, rfl⟩
    obtain ⟨c, T, fr, h1, h2, _, h4⟩ := h.there rfl (.inl rfl)
    exact ⟨c, T, fr, h1, h2, by simp [RO.loc, absO, SV.IsL], fun _ => h4 rfl⟩
  | pl cs =>
    refine ⟨fun _ _ => ?_, h.fits, fun _ => hb, h.lt, trivial⟩
    obtain ⟨c, T, fr, h1, h2, h3, h4⟩ := h.there rfl (.inl rfl)
    exact ⟨c, T, fr, h1, h2, plainL_is hok h3, fun _ => h4 rfl⟩
theorem RO.obj' {base base' : Nat → Prop} {r r' : List Loc} {w : World} {l : Loc} {o : RO} {g : List Nat} {n : Nat} (hok : o.ok n) (h : ObjAt base r w l o.loc) (hb : base' l.blk) : ObjAt base' r' w l (o.out g) := by
  cases o with
  | ab A refs =>
    refine ⟨fun _ _ => ?_, Nat.zero_le _, fun _ => hb, h.lt, rfl⟩
    obtain ⟨c, T, fr, h1, h2, _, h4⟩ := h.there rfl (.inl rfl)
    exact ⟨c, T, fr, h1, h2, by simp [RO.out, absO, SV.IsL], fun _ => h4 rfl⟩
  | pl cs =>
    refine ⟨fun _ _ => ?_, h.fits, fun _ => hb, h.lt, trivial⟩
    obtain ⟨c, T, fr, h1, h2, h3, h4⟩ := h.there rfl (.inl rfl)
    exact ⟨c, T, fr, h1, h2, plainL_is hok h3, fun _ => h4 rfl⟩
theorem mapM_map {r r' : List Loc} {g : List Nat} : ∀ {refs : List Nat}, (∀ x ∈ refs, r[x]? = r'[ren g x]?) → refs.mapM (r[·]?) = (refs.map (ren g)).mapM (r'[·]?)
  | [], _ => rfl
  | x :: l, h => by
    rw [List.map_cons, List.mapM_cons, List.mapM_cons, h x (by simp), mapM_map fun y hy => h y (by simp [hy])]
theorem RO.hid {r r' : List Loc} {w : World} {l : Loc} {fp : List Nat} {o : RO} {g : List Nat} {n : Nat} (hok : o.ok n) (hg : ∀ x, x < n → r'[x]? = r[ren g x]?) : HidIs r w l fp (o.out g) = HidIs r' w l fp o.loc := by
  cases o with
  | ab A refs =>
    show (∃ ls, (refs.map (ren g)).mapM (r[·]?) = some ls ∧ A.holds ls l fp w) = (∃ ls, refs.mapM (r'[·]?) = some ls ∧ A.holds ls l fp w)
    rw [mapM_map fun x hx => hg x (hok x hx)]
  | pl cs => rfl
theorem dead_of {o : SObj} (h : ¬ (o.own = true ∨ o.cells ≠ [])) : o.own = false ∧ o.cells = [] := by
  refine ⟨?_, ?_⟩
  · cases hy : o.own with
    | false => rfl
    | true => exact (h (.inl hy)).elim
  · cases hy : o.cells with
    | nil => rfl
    | cons a l => exact (h (.inr (by rw [hy]; simp))).elim
/-- The hider's memory while it is open. -/
def opM (h : List SV) (os : List RO) (H : Mem) : Mem := ⟨true, h⟩ :: (os.map RO.loc ++ H)
theorem opM_cases {h : List SV} {os : List RO} {H : Mem} {k : Nat} {o : SObj} (hk : (opM h os H)[k]? = some o) : (k = 0 ∧ o = ⟨true, h⟩) ∨ (∃ i q, os[i]? = some q ∧ k = i + 1 ∧ o = q.loc) ∨ ∃ i, k = os.length + 1 + i ∧ H[i]? = some o := by
  unfold opM at hk
  match k with
  | 0 => simp at hk; exact .inl ⟨rfl, hk.symm⟩
  | i + 1 =>
    rw [List.getElem?_cons_succ] at hk
    by_cases hi : i < os.length
    · rw [List.getElem?_append_left (by simpa using hi), List.getElem?_map] at hk
      obtain ⟨q, hq, hk⟩ := Option.map_eq_some_iff.1 hk
      exact .inr (.inl ⟨i, q, hq, rfl, hk.symm⟩)
    · rw [List.getElem?_append_right (by simp; omega)] at hk
      exact .inr (.inr ⟨i - os.length, by omega, by simpa using hk⟩)
theorem opM_ref {h : List SV} {os : List RO} {H : Mem} {i : Nat} {q : RO} (hq : os[i]? = some q) : (opM h os H)[i + 1]? = some q.loc := by
  unfold opM
  have := (List.getElem?_eq_some_iff.1 hq).1
  rw [List.getElem?_cons_succ, List.getElem?_append_left (by simpa using this), List.getElem?_map, hq]; rfl
theorem opM_hid {h : List SV} {os : List RO} {H : Mem} {i : Nat} : (opM h os H)[os.length + 1 + i]? = H[i]? := by
  unfold opM
  rw [show os.length + 1 + i = (os.length + i) + 1 by omega, List.getElem?_cons_succ, List.getElem?_append_right (by simp)]
  simp
theorem hidM_op {n : Nat} {h : List SV} {os : List RO} {H : Mem} (hn : os.length = n) {k : Nat} (hk : k = 0 ∨ n < k) : (hidM n h H)[k]? = (opM h os H)[k]? := by
  rcases hk with rfl | hk
  · rfl
  · obtain ⟨i, rfl⟩ : ∃ i, k = n + 1 + i := ⟨k - n - 1, by omega⟩
    rw [hidM_hid, ← hn, opM_hid]
section
variable {base : Nat → Prop} {w0 W W1 : World} {r : List Loc} {m : Mem}
/-- The blocks that an object and those it leads to own and hide, and all new ones. -/
def opB (W : World) (r : List Loc) (F : Nat → List Nat) (g : List Nat) (b : Nat) : Prop := W.heap.size ≤ b ∨ ∃ x ∈ g, (∃ lx, r[x]? = some lx ∧ b = lx.blk) ∨ b ∈ F x
open Classical in
/-- All that stands elsewhere, to be read. -/
@[reducible] noncomputable def opI (W : World) (B : Nat → Prop) (n : Nat) : Inp := ⟨fun a => if B a.block then none else W.cell? a, n⟩
theorem opB_base [Inp] (hst : St base w0 r m W) {F : Nat → List Nat} (hF : Hid base r m W F) {g : List Nat} (hown : ∀ x ∈ g, ∃ o, m[x]? = some o ∧ o.own = true) {b : Nat} (h : opB W r F g b) : base b := by
  rcases h with h | ⟨x, hx, h⟩
  · exact hst.from_ b (Nat.le_trans hst.low.size h)
  · rcases h with ⟨lx, h1, rfl⟩ | h
    · obtain ⟨o, ho, how⟩ := hown x hx
      exact (hst.obj x lx o h1 ho).own how
    · exact (hF.base x b h).1
theorem ren_0 {j : Nat} {refs : List Nat} : ren (j :: refs) 0 = j := rfl
theorem ren_s {j i q : Nat} {refs : List Nat} (h : refs[i]? = some q) : ren (j :: refs) (i + 1) = q := by simp [ren, h]
theorem mapM_get {r : List Loc} : ∀ {refs : List Nat} {ls : List Loc}, refs.mapM (r[·]?) = some ls → ls.length = refs.length ∧ ∀ (i q : Nat), refs[i]? = some q → r[q]? = ls[i]? ∧ ls[i]? ≠ none
  | [], ls, h => by simp at h; subst h; simp
  | x :: l, ls, h => by
    rw [List.mapM_cons] at h
    obtain ⟨a, ha, h⟩ := Option.bind_eq_some_iff.1 h
    obtain ⟨b, hb, h⟩ := Option.bind_eq_some_iff.1 h
    simp at h
    subst h
    obtain ⟨h1, h2⟩ := mapM_get hb
    refine ⟨by simp [h1], fun i q hi => ?_⟩
    cases i with
    | zero => simp at hi; subst hi; simpa using ha
    | succ i => simpa using h2 i q (by simpa using hi)
theorem refs_get {n : Nat} {l : Loc} {ls rH : List Loc} {i : Nat} (hn : ls.length = n) (hi : i < n) : (l :: (ls ++ rH))[i + 1]? = ls[i]? := by
  rw [List.getElem?_cons_succ, List.getElem?_append_left (by omega)]
/-- An object is opened: a method's walk, over what it hides. -/
theorem St.open_ [I : Inp] (hst : St base w0 r m W) {F : Nat → List Nat} (hF : Hid base r m W F) {j n : Nat} {l : Loc} {P : List SV → Mem → Prop} {refs : List Nat} {os : List RO} (hl : r[j]? = some l) (hm : m[j]? = some (absO (hide n P) refs))
    (hnd : (j :: refs).Nodup) (hrn : refs.length = n) (hon : os.length = n) (hos : ∀ (i q : Nat) (o : RO), refs[i]? = some q → os[i]? = some o → m[q]? = some (o.out (j :: refs)) ∧ o.ok (n + 1)) :
    ∃ h H ls rH, P h H ∧ ls.length = n ∧ rH.length = H.length ∧ refs.mapM (r[·]?) = some ls ∧ @St (opI W (opB W r F (j :: refs)) (n + 1)) (opB W r F (j :: refs)) W (l :: (ls ++ rH)) (opM h os H) W := by
  have hh := hF.is j l _ hl hm
  rw [absO_hid] at hh
  obtain ⟨ls, hls, h, H, rH, Fi, a⟩ := hh
  have hlsn := a.lsl
  obtain ⟨_, hlsg⟩ := mapM_get hls
  have rj : ∀ i : Nat, i < n → ∃ (q : Nat) (o : RO) (lq : Loc), refs[i]? = some q ∧ os[i]? = some o ∧ ls[i]? = some lq ∧ r[q]? = some lq ∧ m[q]? = some (o.out (j :: refs)) ∧ o.ok (n + 1) ∧ q ≠ j := by
    intro i hi
    obtain ⟨q, hq⟩ : ∃ q, refs[i]? = some q := ⟨_, List.getElem?_eq_getElem (by omega)⟩
    obtain ⟨o, ho⟩ : ∃ o, os[i]? = some o := ⟨_, List.getElem?_eq_getElem (by omega)⟩
    obtain ⟨lq, hlq⟩ : ∃ lq, ls[i]? = some lq := ⟨_, List.getElem?_eq_getElem (by omega)⟩
    obtain ⟨h1, h2⟩ := hos i q o hq ho
    refine ⟨q, o, lq, hq, ho, hlq, by rw [(hlsg i q hq).1, hlq], h1, h2, fun e => ?_⟩
    rw [List.nodup_cons] at hnd
    exact hnd.1 (e ▸ List.mem_of_getElem? hq)
  have inj : ∀ i i' q : Nat, refs[i]? = some q → refs[i']? = some q → i = i' := by
    intro i i' q h1 h2
    rw [List.nodup_cons] at hnd
    exact (List.getElem?_inj (List.getElem?_eq_some_iff.1 h1).1 hnd.2).1 (h1.trans h2.symm)
  have mj : (absO (hide n P) refs).own = true := rfl
  have bj : opB W r F (j :: refs) l.blk := .inr ⟨j, by simp, .inl ⟨l, hl, rfl⟩⟩
  have bF : ∀ b, b ∈ F j → opB W r F (j :: refs) b := fun b hb => .inr ⟨j, by simp, .inr hb⟩
  -- whose object it is
  have cs : ∀ (k : Nat) (lk : Loc) (o : SObj), (l :: (ls ++ rH))[k]? = some lk → (opM h os H)[k]? = some o →
      (k = 0 ∧ lk = l ∧ o = ⟨true, h⟩) ∨ (∃ (i q : Nat) (ro : RO), k = i + 1 ∧ i < n ∧ refs[i]? = some q ∧ r[q]? = some lk ∧ m[q]? = some (ro.out (j :: refs)) ∧ ro.ok (n + 1) ∧ q ≠ j ∧ o = ro.loc) ∨ (n < k ∧ (hidM n h H)[k]? = some o ∧ (o.own = true ∨ o.cells = []) ∧ (o.own = true → lk.blk ∈ F j)) := by
    intro k lk o h1 h2
    rcases opM_cases h2 with ⟨rfl, rfl⟩ | ⟨i, ro, hro, rfl, rfl⟩ | ⟨i, rfl, hi⟩
    · simp at h1; exact .inl ⟨rfl, h1.symm, rfl⟩
    · have hi : i < n := by have := (List.getElem?_eq_some_iff.1 hro).1; omega
      obtain ⟨q, o', lq, a1, a2, a3, a4, a5, a6, a7⟩ := rj i hi
      rw [hro] at a2; injection a2 with a2; subst a2
      rw [refs_get hlsn hi, a3] at h1; injection h1 with h1; subst h1
      exact .inr (.inl ⟨i, q, ro, rfl, hi, a1, a4, a5, a6, a7, rfl⟩)
    · have e : (hidM n h H)[os.length + 1 + i]? = some o := by rw [hon, hidM_hid]; exact hi
      refine .inr (.inr ⟨by omega, e, a.own o (List.mem_of_getElem? hi), fun ho => a.blk _ lk o h1 e (by omega) ho⟩)
  refine ⟨h, H, ls, rH, a.is, hlsn, a.len, hls, @St.mk (opI W (opB W r F (j :: refs)) (n + 1)) _ _ _ _ _ (Low.refl _ _) (fun k hk => .inl hk) (fun ad u hu => ?_) (by simp [opM, hlsn, hon, a.len]) (fun k lk o h1 h2 => ?_) (fun k k' l1 l2 o o' h1 h1' h2 h2' hne ho hal => ?_)
    ⟨fun k => if k = 0 then [] else if k ≤ n then F (ren (j :: refs) k) else Fi k, fun k lk o h1 h2 => ?_, fun k b hb => ?_, fun k b hb k' lk o h1 h2 hal => ?_, fun k k' b hb hb' => ?_⟩⟩
  · have hu' : (open Classical in if opB W r F (j :: refs) ad.block then none else W.cell? ad) = some u := hu
    split at hu'
    · cases hu'
    · rename_i hn; exact ⟨hn, hu'⟩
  · rcases cs k lk o h1 h2 with ⟨rfl, rfl, rfl⟩ | ⟨i, q, ro, rfl, hi, a1, a2, a3, a4, a5, rfl⟩ | ⟨hk, e, _, hb⟩
    · exact (a.obj 0 _ _ rfl hidM_0 (.inl rfl)).mono fun _ => bj
    · exact RO.obj a4 (hst.obj q lk _ a2 a3) (.inr ⟨q, by simp [List.mem_of_getElem? a1], .inl ⟨lk, a2, rfl⟩⟩)
    · have hO := a.obj k lk o h1 e (.inr hk)
      exact ⟨hO.there, hO.fits, fun ho => bF _ (hb ho), hO.lt, hO.ext⟩
  · have hal' : o'.own = true := by
      rcases cs k' l2 o' h1' h2' with ⟨rfl, rfl, rfl⟩ | ⟨i, q, ro, rfl, hi, a1, a2, a3, a4, a5, rfl⟩ | ⟨hk, e, hd, hb⟩
      · rfl
      · exact RO.loc_own
      · rcases hd with hd | hd
        · exact hd
        · rcases hal with hh | hh
          · exact hh
          · exact (hh hd).elim
    rcases cs k l1 o h1 h2 with ⟨rfl, rfl, rfl⟩ | ⟨i, q, ro, rfl, hi, a1, a2, a3, a4, a5, rfl⟩ | ⟨hk, e, _, hb⟩ <;> rcases cs k' l2 o' h1' h2' with ⟨rfl, rfl, rfl⟩ | ⟨i', q', ro', rfl, hi', a1', a2', a3', a4', a5', rfl⟩ | ⟨hk', e', _, hb'⟩
    · exact (hne rfl).elim
    · exact hst.sep j q' _ l2 _ _ hl a2' hm a3' (Ne.symm a5') rfl (.inl RO.out_own)
    · exact a.sep 0 k' _ l2 _ o' rfl h1' hidM_0 e' hne rfl hal'
    · exact hst.sep q j l1 _ _ _ a2 hl a3 hm a5 RO.out_own (.inl rfl)
    · refine hst.sep q q' l1 l2 _ _ a2 a2' a3 a3' (fun e => hne ?_) RO.out_own (.inl RO.out_own)
      subst e
      rw [inj i i' q a1 a1']
    · exact hF.far j _ (hb' hal') q l1 _ a2 a3 (.inl RO.out_own)
    · exact a.sep k 0 l1 _ o _ h1 rfl e hidM_0 hne ho rfl
    · exact fun e => hF.far j _ (hb ho) q' l2 _ a2' a3' (.inl RO.out_own) e.symm
    · exact a.sep k k' l1 l2 o o' h1 h1' e e' hne ho hal'
  · rcases cs k lk o h1 h2 with ⟨rfl, rfl, rfl⟩ | ⟨i, q, ro, rfl, hi, a1, a2, a3, a4, a5, rfl⟩ | ⟨hk, e, _, hb⟩
    · exact HidIs.not rfl
    · have e0 : (if i + 1 = 0 then ([] : List Nat) else if i + 1 ≤ n then F (ren (j :: refs) (i + 1)) else Fi (i + 1)) = F q := by
        rw [if_neg (by omega), if_pos (by omega), ren_s a1]
      simp only [e0]
      rw [← RO.hid (g := j :: refs) a4 (r := r) (fun x hx => ?_)]
      · exact hF.is q lk _ a2 a3
      · cases x with
        | zero => rw [ren_0]; simp [hl]
        | succ x =>
          obtain ⟨q2, o2, lq2, b1, b2, b3, b4, _⟩ := rj x (by omega)
          rw [ren_s b1, refs_get hlsn (by omega), b3, b4]
    · have e0 : (if k = 0 then ([] : List Nat) else if k ≤ n then F (ren (j :: refs) k) else Fi k) = Fi k := by
        rw [if_neg (by omega), if_neg (by omega)]
      simp only [e0]
      exact a.hid k lk o h1 e
  · split at hb
    · simp at hb
    · split at hb
      · rename_i hk0 hk
        obtain ⟨i, rfl⟩ : ∃ i, k = i + 1 := ⟨k - 1, by omega⟩
        obtain ⟨q2, o2, lq2, b1, b2, b3, b4, _⟩ := rj i (by omega)
        rw [ren_s b1] at hb
        exact ⟨.inr ⟨q2, by simp [List.mem_of_getElem? b1], .inr hb⟩, (hF.base q2 b hb).2⟩
      · obtain ⟨_, hb⟩ := a.sub k b hb
        exact ⟨bF b hb, (hF.base j b hb).2⟩
  · have hal' : o.own = true := by
      rcases cs k' lk o h1 h2 with ⟨rfl, rfl, rfl⟩ | ⟨i, q, ro, rfl, hi, a1, a2, a3, a4, a5, rfl⟩ | ⟨hk, e, hd, hb⟩
      · rfl
      · exact RO.loc_own
      · rcases hd with hd | hd
        · exact hd
        · rcases hal with hh | hh
          · exact hh
          · exact (hh hd).elim
    split at hb
    · simp at hb
    · split at hb
      · rename_i hk0 hk
        obtain ⟨i, rfl⟩ : ∃ i, k = i + 1 := ⟨k - 1, by omega⟩
        obtain ⟨q2, o2, lq2, b1, b2, b3, b4, b5, b6, b7⟩ := rj i (by omega)
        rw [ren_s b1] at hb
        rcases cs k' lk o h1 h2 with ⟨rfl, rfl, rfl⟩ | ⟨i', q, ro, rfl, hi, a1, a2, a3, a4, a5, rfl⟩ | ⟨hk', e, hd, hb'⟩
        · exact hF.far q2 b hb j _ _ hl hm (.inl rfl)
        · exact hF.far q2 b hb q lk _ a2 a3 (.inl RO.out_own)
        · intro e2
          have := hF.apart q2 j b hb (e2 ▸ hb' hal')
          exact b7 this
      · rename_i hk0 hk
        rcases cs k' lk o h1 h2 with ⟨rfl, rfl, rfl⟩ | ⟨i', q, ro, rfl, hi, a1, a2, a3, a4, a5, rfl⟩ | ⟨hk', e, hd, hb'⟩
        · exact a.far k b hb 0 _ _ rfl hidM_0 rfl
        · exact hF.far j b (a.sub k b hb).2 q lk _ a2 a3 (.inl RO.out_own)
        · exact a.far k b hb k' lk o h1 e hal'
  · split at hb
    · simp at hb
    · split at hb'
      · simp at hb'
      · rename_i hk0 hk0'
        split at hb <;> split at hb'
        · rename_i hk hk'
          obtain ⟨i, rfl⟩ : ∃ i, k = i + 1 := ⟨k - 1, by omega⟩
          obtain ⟨i', rfl⟩ : ∃ i, k' = i + 1 := ⟨k' - 1, by omega⟩
          obtain ⟨q2, o2, lq2, b1, b2, b3, b4, b5, b6, b7⟩ := rj i (by omega)
          obtain ⟨q3, o3, lq3, c1, c2, c3, c4, c5, c6, c7⟩ := rj i' (by omega)
          rw [ren_s b1] at hb
          rw [ren_s c1] at hb'
          have := hF.apart q2 q3 b hb hb'
          subst this
          rw [inj i i' q2 b1 c1]
        · rename_i hk hk'
          obtain ⟨i, rfl⟩ : ∃ i, k = i + 1 := ⟨k - 1, by omega⟩
          obtain ⟨q2, o2, lq2, b1, b2, b3, b4, b5, b6, b7⟩ := rj i (by omega)
          rw [ren_s b1] at hb
          exact (b7 (hF.apart q2 j b hb (a.sub k' b hb').2)).elim
        · rename_i hk hk'
          obtain ⟨i, rfl⟩ : ∃ i, k' = i + 1 := ⟨k' - 1, by omega⟩
          obtain ⟨q2, o2, lq2, b1, b2, b3, b4, b5, b6, b7⟩ := rj i (by omega)
          rw [ren_s b1] at hb'
          exact (b7 (hF.apart q2 j b hb' (a.sub k b hb).2)).elim
        · exact a.apart k k' b hb hb'
theorem nodup_ren {j : Nat} {refs : List Nat} (hnd : (j :: refs).Nodup) : ∀ (i i' q : Nat), refs[i]? = some q → refs[i']? = some q → i = i' := by
  intro i i' q h1 h2
  rw [List.nodup_cons] at hnd
  exact (List.getElem?_inj (List.getElem?_eq_some_iff.1 h1).1 hnd.2).1 (h1.trans h2.symm)
/-- An object is shut again: it hides something else. -/
theorem St.shut [I : Inp] (hst : St base w0 r m W) {F : Nat → List Nat} (hF : Hid base r m W F) {j n : Nat} {l : Loc} {A : Abs} {P' : List SV → Mem → Prop} {refs : List Nat} {os os' : List RO} (hl : r[j]? = some l) (hm : m[j]? = some (absO A refs))
    (hnd : (j :: refs).Nodup) (hrn : refs.length = n) (hon : os.length = n) (hos : ∀ (i q : Nat) (o : RO), refs[i]? = some q → os[i]? = some o → m[q]? = some (o.out (j :: refs)) ∧ o.ok (n + 1))
    {ls rH : List Loc} (hls : refs.mapM (r[·]?) = some ls) {J : Inp} {h' : List SV} {H' : Mem} (hst' : @St J (opB W r F (j :: refs)) W (l :: (ls ++ rH)) (opM h' os' H') W1) (hon' : os'.length = n) (hok' : ∀ o ∈ os', o.ok (n + 1)) (hP : P' h' H') (hown' : ∀ o ∈ H', o.own = true ∨ o.cells = [])
    {mF : Mem} (e0 : mF.length = m.length) (e1 : mF[j]? = some (absO (hide n P') refs)) (e2 : ∀ (i q : Nat) (o : RO), refs[i]? = some q → os'[i]? = some o → mF[q]? = some (o.out (j :: refs))) (e3 : ∀ k, k ∉ j :: refs → mF[k]? = m[k]?)
    {F2 : Nat → List Nat} (hF2 : Hid (opB W r F (j :: refs)) (l :: (ls ++ rH)) (opM h' os' H') W1 F2) :
    @St I base w0 r mF W1 ∧ ∃ F3, Hid base r mF W1 F3 ∧ (∀ k, k ∉ j :: refs → F3 k = F k) ∧ (∀ k, k ∉ j :: refs → ∀ b ∈ F k, ¬ opB W r F (j :: refs) b) ∧ (∀ (k : Nat) (lk : Loc) (o : SObj), k ∉ j :: refs → r[k]? = some lk → mF[k]? = some o → (o.own = true ∨ o.cells ≠ []) → ¬ opB W r F (j :: refs) lk.blk) ∧
      (∀ k, k ∈ j :: refs → ∀ b ∈ F3 k, (∃ (y : Nat) (ly : Loc) (oy : SObj), (l :: (ls ++ rH))[y]? = some ly ∧ (opM h' os' H')[y]? = some oy ∧ oy.own = true ∧ b = ly.blk) ∨ ∃ y, b ∈ F2 y) ∧
      (∀ k, k ∈ j :: refs → ∀ lk, r[k]? = some lk → ∃ (y : Nat) (oy : SObj), (l :: (ls ++ rH))[y]? = some lk ∧ (opM h' os' H')[y]? = some oy ∧ oy.own = true) ∧ (∀ b, opB W r F (j :: refs) b → base b) := by
  have inj := nodup_ren hnd
  obtain ⟨hlsn', hlsg⟩ := mapM_get hls
  have hlsn : ls.length = n := by omega
  have rj : ∀ i : Nat, i < n → ∃ (q : Nat) (o o' : RO) (lq : Loc), refs[i]? = some q ∧ os[i]? = some o ∧ os'[i]? = some o' ∧ ls[i]? = some lq ∧ r[q]? = some lq ∧ m[q]? = some (o.out (j :: refs)) ∧ mF[q]? = some (o'.out (j :: refs)) ∧ o'.ok (n + 1) ∧ q ≠ j := by
    intro i hi
    obtain ⟨q, hq⟩ : ∃ q, refs[i]? = some q := ⟨_, List.getElem?_eq_getElem (by omega)⟩
    obtain ⟨o, ho⟩ : ∃ o, os[i]? = some o := ⟨_, List.getElem?_eq_getElem (by omega)⟩
    obtain ⟨o', ho'⟩ : ∃ o, os'[i]? = some o := ⟨_, List.getElem?_eq_getElem (by omega)⟩
    obtain ⟨lq, hlq⟩ : ∃ lq, ls[i]? = some lq := ⟨_, List.getElem?_eq_getElem (by omega)⟩
    refine ⟨q, o, o', lq, hq, ho, ho', hlq, by rw [(hlsg i q hq).1, hlq], (hos i q o hq ho).1, e2 i q o' hq ho', hok' _ (List.mem_of_getElem? ho'), fun e => ?_⟩
    rw [List.nodup_cons] at hnd
    exact hnd.1 (e ▸ List.mem_of_getElem? hq)
  have hgo : ∀ x ∈ j :: refs, ∃ o, m[x]? = some o ∧ o.own = true := by
    intro x hx
    rcases List.mem_cons.1 hx with rfl | hx
    · exact ⟨_, hm, rfl⟩
    · obtain ⟨i, hi⟩ := List.getElem?_of_mem hx
      obtain ⟨q, o, o', lq, a1, _, _, _, _, a2, _⟩ := rj i (by have := (List.getElem?_eq_some_iff.1 hi).1; omega)
      rw [hi] at a1; injection a1 with a1; subst a1
      exact ⟨_, a2, RO.out_own⟩
  have hB : ∀ b, opB W r F (j :: refs) b → base b := fun b hb => @opB_base _ _ _ _ _ I hst _ hF _ hgo _ hb
  have hlow' := @St.low J _ _ _ _ _ hst'
  have hlow : Low base W W1 := ⟨hlow'.os, hlow'.tape, hlow'.output, hlow'.size, fun k hk hb => hlow'.block k hk fun h => hb (hB k h), hlow'.shape⟩
  have kin : ∀ k : Nat, k ∈ j :: refs → k = j ∨ ∃ i, i < n ∧ refs[i]? = some k := by
    intro k hk
    rcases List.mem_cons.1 hk with rfl | hk
    · exact .inl rfl
    · obtain ⟨i, hi⟩ := List.getElem?_of_mem hk
      exact .inr ⟨i, by have := (List.getElem?_eq_some_iff.1 hi).1; omega, hi⟩
  -- what lies elsewhere is as1 it was
  have far1 : ∀ (k : Nat) (lk : Loc) (o : SObj), k ∉ j :: refs → r[k]? = some lk → m[k]? = some o → (o.own = true ∨ o.cells ≠ []) → ¬ opB W r F (j :: refs) lk.blk := by
    intro k lk o hk h1 h2 hal hb
    rcases hb with hb | ⟨x, hx, hb⟩
    · have := @St.locs _ _ _ _ _ I hst lk (List.mem_of_getElem? h1); omega
    · obtain ⟨ox, hox, howx⟩ := hgo x hx
      rcases hb with ⟨lx, h3, h4⟩ | hb
      · exact @St.sep I _ _ _ _ _ hst x k lx lk ox o h3 h1 hox h2 (fun e => hk (e ▸ hx)) howx hal h4.symm
      · exact hF.far x _ hb k lk o h1 h2 hal rfl
  have far2 : ∀ (k b : Nat), k ∉ j :: refs → b ∈ F k → ¬ opB W r F (j :: refs) b := by
    intro k b hk hb hbb
    rcases hbb with hbb | ⟨x, hx, hbb⟩
    · have := (hF.base k b hb).2; omega
    · obtain ⟨ox, hox, howx⟩ := hgo x hx
      rcases hbb with ⟨lx, h3, h4⟩ | hbb
      · exact hF.far k b hb x lx ox h3 hox (.inl howx) h4.symm
      · exact hk (hF.apart k x b hb hbb ▸ hx)
  have keep : ∀ b, b < W.heap.size → ¬ opB W r F (j :: refs) b → W1.heap[b]? = W.heap[b]? := fun b h1 h2 => hlow'.block b h1 h2
  have R0 : (l :: (ls ++ rH))[0]? = some l := rfl
  have Rr : ∀ i, i < n → (l :: (ls ++ rH))[i + 1]? = ls[i]? := fun i hi => refs_get hlsn hi
  have hR : ∀ x, x < n + 1 → (l :: (ls ++ rH))[x]? = r[ren (j :: refs) x]? := by
    intro x hx
    cases x with
    | zero => rw [ren_0]; simp [hl]
    | succ x =>
      obtain ⟨q, o, o', lq, a1, a2, a3, a4, a5, _⟩ := rj x (by omega)
      rw [ren_s a1, Rr x (by omega), a4, a5]
  have obj' := @St.obj J _ _ _ _ _ hst'
  have sep' := @St.sep J _ _ _ _ _ hst'
  have len' : (l :: (ls ++ rH)).length = (opM h' os' H').length := @St.len J _ _ _ _ _ hst'
  have hrH : rH.length = H'.length := by simp [opM] at len'; omega
  -- hidden now
  have hidc : ∀ (k : Nat) (o : SObj), n < k → (opM h' os' H')[k]? = some o → o ∈ H' := by
    intro k o hk ho
    rcases opM_cases ho with ⟨rfl, _⟩ | ⟨i, q, hq, rfl, _⟩ | ⟨i, rfl, hi⟩
    · omega
    · have := (List.getElem?_eq_some_iff.1 hq).1; omega
    · exact List.mem_of_getElem? hi
  let fpN : List Nat := (List.range (l :: (ls ++ rH)).length).flatMap fun k => if n < k then (match (l :: (ls ++ rH))[k]?, (opM h' os' H')[k]? with | some lk, some o => if o.own = true then [lk.blk] else [] | _, _ => []) ++ F2 k else []
  have fpm : ∀ b, b ∈ fpN ↔ ∃ k, k < (l :: (ls ++ rH)).length ∧ n < k ∧ ((∃ lk o, (l :: (ls ++ rH))[k]? = some lk ∧ (opM h' os' H')[k]? = some o ∧ o.own = true ∧ b = lk.blk) ∨ b ∈ F2 k) := by
    intro b
    simp only [fpN, List.mem_flatMap, List.mem_range]
    constructor
    · rintro ⟨k, hk, hb⟩
      split at hb
      · rename_i hn
        refine ⟨k, hk, hn, ?_⟩
        rcases List.mem_append.1 hb with hb | hb
        · split at hb
          · rename_i lk o h1 h2
            split at hb
            · rename_i ho
              simp at hb
              exact .inl ⟨lk, o, h1, h2, ho, hb⟩
            · simp at hb
          · simp at hb
        · exact .inr hb
      · simp at hb
    · rintro ⟨k, hk, hn, hb⟩
      refine ⟨k, hk, ?_⟩
      rw [if_pos hn]
      rcases hb with ⟨lk, o, h1, h2, ho, rfl⟩ | hb
      · simp [h1, h2, ho]
      · simp [hb]
  have fpB : ∀ b, b ∈ fpN → opB W r F (j :: refs) b ∧ b < W1.heap.size := by
    intro b hb
    obtain ⟨k, _, _, hb⟩ := (fpm b).1 hb
    rcases hb with ⟨lk, o, h1, h2, ho, rfl⟩ | hb
    · exact ⟨(obj' k lk o h1 h2).own ho, (obj' k lk o h1 h2).lt⟩
    · exact hF2.base k b hb
  have op0 : (opM h' os' H')[0]? = some ⟨true, h'⟩ := rfl
  have hide' : HideIs n P' ls l fpN W1 h' H' rH (fun k => if n < k ∧ k < (l :: (ls ++ rH)).length then F2 k else []) := by
    have mm : ∀ k, (k = 0 ∨ n < k) → (hidM n h' H')[k]? = (opM h' os' H')[k]? := fun k hk => hidM_op hon' hk
    have own0 : ∀ (k : Nat) (o : SObj), (hidM n h' H')[k]? = some o → o.own = true → k = 0 ∨ n < k := by
      intro k o hk ho
      rcases hidM_cases hk with ⟨rfl, _⟩ | ⟨i, _, rfl, rfl⟩ | ⟨i, rfl, _⟩
      · exact .inl rfl
      · simp at ho
      · exact .inr (by omega)
    refine ⟨hP, hlsn, hrH, hown', fun k lk o h1 h2 hk => ?_, fun k lk o h1 h2 hk ho => ?_, fun k k' l1 l2 o o' h1 h1' h2 h2' hne ho ho' => ?_, fun k lk o h1 h2 => ?_, fun k b hb => ?_, fun k b hb k' l1 o h1 h2 ho => ?_, fun k k' b hb hb' => ?_⟩
    · rw [mm k hk] at h2
      have hO := obj' k lk o h1 h2
      refine ⟨hO.there, hO.fits, fun ho => ?_, hO.lt, hO.ext⟩
      rcases hk with rfl | hk
      · rw [R0] at h1; injection h1 with h1; exact .inl (by rw [h1])
      · exact .inr ((fpm _).2 ⟨k, (List.getElem?_eq_some_iff.1 h1).1, hk, .inl ⟨lk, o, h1, h2, ho, rfl⟩⟩)
    · rw [mm k (.inr hk)] at h2
      exact (fpm _).2 ⟨k, (List.getElem?_eq_some_iff.1 h1).1, hk, .inl ⟨lk, o, h1, h2, ho, rfl⟩⟩
    · have hk := own0 k o h2 ho
      have hk' := own0 k' o' h2' ho'
      rw [mm k hk] at h2
      rw [mm k' hk'] at h2'
      exact sep' k k' l1 l2 o o' h1 h1' h2 h2' hne ho (.inl ho')
    · cases ha : o.isA with
      | false => exact HidIs.not ha
      | true =>
        have hk : n < k := by
          rcases hidM_cases h2 with ⟨rfl, rfl⟩ | ⟨i, _, rfl, rfl⟩ | ⟨i, rfl, _⟩
          · simp at ha
          · simp at ha
          · omega
        rw [mm k (.inr hk)] at h2
        simp only [if_pos (show n < k ∧ k < (l :: (ls ++ rH)).length from ⟨hk, (List.getElem?_eq_some_iff.1 h1).1⟩)]
        exact hF2.is k lk o h1 h2
    · split at hb
      · rename_i hk
        exact ⟨hk.1, (fpm _).2 ⟨k, hk.2, hk.1, .inr hb⟩⟩
      · simp at hb
    · have hk := own0 k' o h2 ho
      rw [mm k' hk] at h2
      split at hb
      · exact hF2.far k b hb k' l1 o h1 h2 (.inl ho)
      · simp at hb
    · split at hb
      · split at hb'
        · exact hF2.apart k k' b hb hb'
        · simp at hb'
      · simp at hb
  -- the objects of the caller's memory now
  have obF : ∀ (k : Nat) (o : SObj), mF[k]? = some o → (k = j ∧ o = absO (hide n P') refs) ∨ (∃ (i : Nat) (o' : RO) (lq : Loc), i < n ∧ refs[i]? = some k ∧ os'[i]? = some o' ∧ ls[i]? = some lq ∧ r[k]? = some lq ∧ o'.ok (n + 1) ∧ k ≠ j ∧ o = o'.out (j :: refs)) ∨ (k ∉ j :: refs ∧ m[k]? = some o) := by
    intro k o hk
    by_cases hg : k ∈ j :: refs
    · rcases kin k hg with rfl | ⟨i, hi, hq⟩
      · rw [e1] at hk; injection hk with hk; exact .inl ⟨rfl, hk.symm⟩
      · obtain ⟨q, o1, o2, lq, a1, a2, a3, a4, a5, a6, a7, a8, a9⟩ := rj i hi
        rw [hq] at a1; injection a1 with a1; subst a1
        rw [a7] at hk; injection hk with hk
        exact .inr (.inl ⟨i, o2, lq, hi, hq, a3, a4, a5, a8, a9, hk.symm⟩)
    · rw [e3 k hg] at hk; exact .inr (.inr ⟨hg, hk⟩)
  have oldO : ∀ (k : Nat) (o : SObj), mF[k]? = some o → ∃ o0, m[k]? = some o0 ∧ (o.own = true → o0.own = true) ∧ ((o.own = true ∨ o.cells ≠ []) → (o0.own = true ∨ o0.cells ≠ [])) := by
    intro k o hk
    by_cases hg : k ∈ j :: refs
    · obtain ⟨o0, h1, h2⟩ := hgo k hg
      exact ⟨o0, h1, fun _ => h2, fun _ => .inl h2⟩
    · rw [e3 k hg] at hk
      exact ⟨o, hk, id, id⟩
  classical
  let F3 : Nat → List Nat := fun k => if k = j then fpN else if k ∈ refs then F2 (refs.idxOf k + 1) else F k
  have F3j : F3 j = fpN := by simp only [F3, if_true]
  have F3r : ∀ (i q : Nat), refs[i]? = some q → F3 q = F2 (i + 1) := by
    intro i q hq
    have hqj : q ≠ j := fun e => by rw [List.nodup_cons] at hnd; exact hnd.1 (e ▸ List.mem_of_getElem? hq)
    have hmem := List.mem_of_getElem? hq
    have hidx : refs[refs.idxOf q]? = some q := by
      rw [List.getElem?_eq_getElem (List.idxOf_lt_length_of_mem hmem), List.getElem_idxOf]
    simp only [F3, if_neg hqj, if_pos hmem]
    rw [inj _ _ q hidx hq]
  have F3o : ∀ k, k ∉ j :: refs → F3 k = F k := by
    intro k hk
    simp only [List.mem_cons, not_or] at hk
    simp only [F3, if_neg hk.1, if_neg hk.2]
  have F3B : ∀ k, k ∈ j :: refs → ∀ b ∈ F3 k, opB W r F (j :: refs) b ∧ b < W1.heap.size := by
    intro k hk b hb
    rcases kin k hk with rfl | ⟨i, hi, hq⟩
    · rw [F3j] at hb; exact fpB b hb
    · rw [F3r i k hq] at hb; exact hF2.base _ b hb
  have hH3 : Hid base r mF W1 F3 := by
    refine ⟨fun k lk o h1 h2 => ?_, fun k b hb => ?_, fun k b hb k' lk o h1 h2 hal => ?_, fun k k' b hb hb' => ?_⟩
    · rcases obF k o h2 with ⟨rfl, rfl⟩ | ⟨i, o', lq, hi, hq, a1, a2, a3, a4, a5, rfl⟩ | ⟨hg, h3⟩
      · rw [hl] at h1; injection h1 with h1; subst h1
        rw [F3j, absO_hid]
        exact ⟨ls, hls, h', H', rH, _, hide'⟩
      · rw [a3] at h1; injection h1 with h1; subst h1
        rw [F3r i k hq, RO.hid (g := j :: refs) a4 hR]
        exact hF2.is (i + 1) lq _ (by rw [Rr i hi, a2]) (opM_ref a1)
      · rw [F3o k hg]
        cases ha : o.isA with
        | false => exact HidIs.not ha
        | true =>
          have hO := @St.obj I _ _ _ _ _ hst k lk o h1 h3
          have hoo := hO.isA_own ha
          refine (hF.is k lk o h1 h3).same hlow.size fun b hb => ?_
          rcases List.mem_cons.1 hb with rfl | hb
          · exact keep _ hO.lt (far1 k lk o hg h1 h3 (.inl hoo))
          · exact keep _ (hF.base k b hb).2 (far2 k b hg hb)
    · by_cases hg : k ∈ j :: refs
      · have := F3B k hg b hb
        exact ⟨hB b this.1, this.2⟩
      · rw [F3o k hg] at hb
        exact ⟨(hF.base k b hb).1, Nat.lt_of_lt_of_le (hF.base k b hb).2 hlow.size⟩
    · by_cases hg : k ∈ j :: refs
      · by_cases hg' : k' ∈ j :: refs
        · -- both are the hider's, or what it leads to
          have loc' : ∃ x o', (l :: (ls ++ rH))[x]? = some lk ∧ (opM h' os' H')[x]? = some o' ∧ o'.own = true ∧ x ≤ n := by
            rcases kin k' hg' with rfl | ⟨i, hi, hq⟩
            · rw [hl] at h1; injection h1 with h1; subst h1
              exact ⟨0, _, R0, op0, rfl, by omega⟩
            · obtain ⟨q, o1, o2, lq', b1, b2, b3, b4, b5, b6, b7, b8, b9⟩ := rj i hi
              rw [hq] at b1; injection b1 with b1; subst b1
              rw [b5] at h1; injection h1 with h1; subst h1
              exact ⟨i + 1, _, by rw [Rr i hi, b4], opM_ref b3, RO.loc_own, by omega⟩
          obtain ⟨x, ox, x1, x2, x3, x4⟩ := loc'
          rcases kin k hg with rfl | ⟨i, hi, hq⟩
          · rw [F3j] at hb
            obtain ⟨y, _, hy, hb⟩ := (fpm b).1 hb
            rcases hb with ⟨ly, oy, y1, y2, y3, rfl⟩ | hb
            · exact sep' x y lk ly ox oy x1 y1 x2 y2 (by omega) x3 (.inl y3)
            · exact hF2.far y b hb x lk ox x1 x2 (.inl x3)
          · rw [F3r i k hq] at hb
            exact hF2.far _ b hb x lk ox x1 x2 (.inl x3)
        · rw [e3 k' hg'] at h2
          intro e
          exact far1 k' lk o hg' h1 h2 hal (e ▸ (F3B k hg b hb).1)
      · rw [F3o k hg] at hb
        obtain ⟨o0, q1, _, q3⟩ := oldO k' o h2
        exact hF.far k b hb k' lk o0 h1 q1 (q3 hal)
    · by_cases hg : k ∈ j :: refs
      · by_cases hg' : k' ∈ j :: refs
        · have tag : ∀ k, k ∈ j :: refs → ∀ b, b ∈ F3 k → (k = j ∧ ((∃ y ly oy, n < y ∧ (l :: (ls ++ rH))[y]? = some ly ∧ (opM h' os' H')[y]? = some oy ∧ oy.own = true ∧ b = ly.blk) ∨ ∃ y, n < y ∧ b ∈ F2 y)) ∨ ∃ i, i < n ∧ refs[i]? = some k ∧ b ∈ F2 (i + 1) := by
            intro k hk b hb
            rcases kin k hk with rfl | ⟨i, hi, hq⟩
            · rw [F3j] at hb
              obtain ⟨y, _, hy, hb⟩ := (fpm b).1 hb
              rcases hb with ⟨ly, oy, y1, y2, y3, e⟩ | hb
              · exact .inl ⟨rfl, .inl ⟨y, ly, oy, hy, y1, y2, y3, e⟩⟩
              · exact .inl ⟨rfl, .inr ⟨y, hy, hb⟩⟩
            · rw [F3r i k hq] at hb; exact .inr ⟨i, hi, hq, hb⟩
          rcases tag k hg b hb with ⟨rfl, t1⟩ | ⟨i, hi, hq, t1⟩ <;> rcases tag k' hg' b hb' with ⟨rfl, t2⟩ | ⟨i', hi', hq', t2⟩
          · rfl
          · rcases t1 with ⟨y, ly, oy, hy, y1, y2, y3, e⟩ | ⟨y, hy, t1⟩
            · exact (hF2.far _ b t2 y ly oy y1 y2 (.inl y3) e.symm).elim
            · have := hF2.apart _ _ b t1 t2; omega
          · rcases t2 with ⟨y, ly, oy, hy, y1, y2, y3, e⟩ | ⟨y, hy, t2⟩
            · exact (hF2.far _ b t1 y ly oy y1 y2 (.inl y3) e.symm).elim
            · have := hF2.apart _ _ b t1 t2; omega
          · have := hF2.apart _ _ b t1 t2
            have : i = i' := by omega
            subst this
            rw [hq] at hq'; injection hq'
        · rw [F3o k' hg'] at hb'
          exact (far2 k' b hg' hb' (F3B k hg b hb).1).elim
      · by_cases hg' : k' ∈ j :: refs
        · rw [F3o k hg] at hb
          exact (far2 k b hg hb (F3B k' hg' b hb').1).elim
        · rw [F3o k hg] at hb
          rw [F3o k' hg'] at hb'
          exact hF.apart k k' b hb hb'
  have locs' : ∀ k, k ∈ j :: refs → ∀ lk, r[k]? = some lk → ∃ (y : Nat) (oy : SObj), (l :: (ls ++ rH))[y]? = some lk ∧ (opM h' os' H')[y]? = some oy ∧ oy.own = true := by
    intro k hk lk h1
    rcases kin k hk with rfl | ⟨i, hi, hq⟩
    · rw [hl] at h1; injection h1 with h1; subst h1
      exact ⟨0, _, R0, op0, rfl⟩
    · obtain ⟨q, o1, o2, lq', b1, b2, b3, b4, b5, b6, b7, b8, b9⟩ := rj i hi
      rw [hq] at b1; injection b1 with b1; subst b1
      rw [b5] at h1; injection h1 with h1; subst h1
      exact ⟨i + 1, _, by rw [Rr i hi, b4], opM_ref b3, RO.loc_own⟩
  have from' : ∀ k, k ∈ j :: refs → ∀ b ∈ F3 k, (∃ (y : Nat) (ly : Loc) (oy : SObj), (l :: (ls ++ rH))[y]? = some ly ∧ (opM h' os' H')[y]? = some oy ∧ oy.own = true ∧ b = ly.blk) ∨ ∃ y, b ∈ F2 y := by
    intro k hk b hb
    rcases kin k hk with rfl | ⟨i, hi, hq⟩
    · rw [F3j] at hb
      obtain ⟨y, _, hy, hb⟩ := (fpm b).1 hb
      rcases hb with ⟨ly, oy, y1, y2, y3, e⟩ | hb
      · exact .inl ⟨y, ly, oy, y1, y2, y3, e⟩
      · exact .inr ⟨y, hb⟩
    · rw [F3r i k hq] at hb; exact .inr ⟨_, hb⟩
  refine ⟨@St.mk I _ _ _ _ _ ((@St.low I _ _ _ _ _ hst).trans hlow) (@St.from_ I _ _ _ _ _ hst) (@St.inp I _ _ _ _ _ hst) (by rw [e0]; exact @St.len I _ _ _ _ _ hst) (fun k lk o h1 h2 => ?_) (fun k k' l1 l2 o o' h1 h1' h2 h2' hne ho hal => ?_) ⟨F3, hH3⟩, F3, hH3, F3o, fun k hk b hb => far2 k b hk hb, fun k lk o hk h1 h2 hal => far1 k lk o hk h1 (by rw [e3 k hk] at h2; exact h2) hal, from', locs', hB⟩
  · rcases obF k o h2 with ⟨rfl, rfl⟩ | ⟨i, o', lq, hi, hq, a1, a2, a3, a4, a5, rfl⟩ | ⟨hg, h3⟩
    · rw [hl] at h1; injection h1 with h1; subst h1
      have hO := obj' 0 l _ R0 op0
      refine ⟨fun _ _ => ?_, Nat.zero_le _, fun _ => (@St.obj I _ _ _ _ _ hst k l _ hl hm).own rfl, hO.lt, rfl⟩
      obtain ⟨c, T, fr, g1, g2, g3, g4⟩ := hO.there rfl (.inl rfl)
      exact ⟨c, T, fr, g1, g2, by simp [absO, SV.IsL], fun _ => g4 rfl⟩
    · rw [a3] at h1; injection h1 with h1; subst h1
      obtain ⟨q, o1, o2, lq', b1, b2, b3, b4, b5, b6, b7, b8, b9⟩ := rj i hi
      rw [hq] at b1; injection b1 with b1; subst b1
      refine RO.obj' a4 (obj' (i + 1) lq _ (by rw [Rr i hi, a2]) (opM_ref a1)) ?_
      exact (@St.obj I _ _ _ _ _ hst k lq _ a3 b6).own RO.out_own
    · have hO := @St.obj I _ _ _ _ _ hst k lk o h1 h3
      by_cases hal : o.own = true ∨ o.cells ≠ []
      · exact hO.same (keep _ hO.lt (far1 k lk o hg h1 h3 hal))
      · rw [hO.isDead (dead_of hal).1 (dead_of hal).2]
        exact .dead (Nat.lt_of_lt_of_le hO.lt hlow.size)
  · obtain ⟨o0, q1, q2, _⟩ := oldO k o h2
    obtain ⟨o0', q1', _, q3'⟩ := oldO k' o' h2'
    exact @St.sep I _ _ _ _ _ hst k k' l1 l2 o0 o0' h1 h1' q1 q1' hne (q2 ho) (q3' hal)
/-- Some objects forgotten. -/
theorem St.weak [Inp] (hst : St base w0 r m W) {F : Nat → List Nat} (hF : Hid base r m W F) {m' : Mem} (hlen : m'.length = m.length) (hw : ∀ (k : Nat) (o o' : SObj), m[k]? = some o → m'[k]? = some o' → o' = o ∨ o' = ⟨false, []⟩) (F' : Nat → List Nat) (hF' : ∀ k, F' k = F k ∨ F' k = [] ∧ ∀ o', m'[k]? = some o' → o'.isA = false) :
    St base w0 r m' W ∧ Hid base r m' W F' := by
  have old : ∀ (k : Nat) (o' : SObj), m'[k]? = some o' → ∃ o, m[k]? = some o ∧ (o' = o ∨ o' = ⟨false, []⟩) := by
    intro k o' h
    have hk : k < m.length := by rw [← hlen]; exact (List.getElem?_eq_some_iff.1 h).1
    exact ⟨_, List.getElem?_eq_getElem hk, hw k _ o' (List.getElem?_eq_getElem hk) h⟩
  have sub : ∀ k b, b ∈ F' k → b ∈ F k := by
    intro k b hb
    rcases hF' k with h | ⟨h, _⟩
    · rw [← h]; exact hb
    · rw [h] at hb; simp at hb
  have hH : Hid base r m' W F' := by
    refine ⟨fun k l o' h1 h2 => ?_, fun k b hb => hF.base k b (sub k b hb), fun k b hb k' l o' h1 h2 hal => ?_, fun k k' b hb hb' => hF.apart k k' b (sub k b hb) (sub k' b hb')⟩
    · obtain ⟨o, h3, h4⟩ := old k o' h2
      rcases h4 with rfl | rfl
      · rcases hF' k with h | ⟨_, h⟩
        · rw [h]; exact hF.is k l _ h1 h3
        · exact HidIs.not (h _ h2)
      · exact HidIs.not rfl
    · obtain ⟨o, h3, h4⟩ := old k' o' h2
      rcases h4 with rfl | rfl
      · exact hF.far k b (sub k b hb) k' l _ h1 h3 hal
      · simp at hal
  refine ⟨⟨hst.low, hst.from_, hst.inp, by rw [hlen]; exact hst.len, fun k l o' h1 h2 => ?_, fun k k' l l' o o' h1 h1' h2 h2' hne ho hal => ?_, F', hH⟩, hH⟩
  · obtain ⟨o, h3, h4⟩ := old k o' h2
    rcases h4 with rfl | rfl
    · exact hst.obj k l _ h1 h3
    · exact .dead (hst.obj k l _ h1 h3).lt
  · obtain ⟨o1, h3, h4⟩ := old k o h2
    obtain ⟨o2, h5, h6⟩ := old k' o' h2'
    rcases h4 with rfl | rfl
    · rcases h6 with rfl | rfl
      · exact hst.sep k k' l l' _ _ h1 h1' h3 h5 hne ho hal
      · simp at hal
    · simp at ho
mutual
theorem un_is {r t : List Loc} : ∀ {s : SV} {u : Value}, (s.up r.length).Is (r ++ t) u → s.Is t u
  | .v x, u, hs => by simpa only [SV.up, SV.Is] using hs
  | .any, u, hs => by simp only [SV.Is]
  | .emp, u, hs => by simpa only [SV.up, SV.Is] using hs
  | .zro, u, hs => by simpa only [SV.up, SV.Is] using hs
  | .mp k, u, hs => by
    simp only [SV.up, SV.Is] at hs ⊢
    obtain ⟨l, h1, h2⟩ := hs
    rw [List.getElem?_append_right (by omega), Nat.add_sub_cancel_left] at h1
    exact ⟨l, h1, h2⟩
  | .ptr k o, u, hs => by
    simp only [SV.up, SV.Is] at hs ⊢
    obtain ⟨l, h1, h2⟩ := hs
    rw [List.getElem?_append_right (by omega), Nat.add_sub_cancel_left] at h1
    exact ⟨l, h1, h2⟩
  | .row k o n sz, u, hs => by
    simp only [SV.up, SV.Is] at hs ⊢
    obtain ⟨l, c, h1, h2⟩ := hs
    rw [List.getElem?_append_right (by omega), Nat.add_sub_cancel_left] at h1
    exact ⟨l, c, h1, h2⟩
  | .agg cs, u, hs => by
    simp only [SV.up, SV.Is] at hs ⊢
    obtain ⟨us, h1, h2⟩ := hs
    exact ⟨us, h1, unL_is h2⟩
  | .tup cs, u, hs => by
    simp only [SV.up, SV.Is] at hs ⊢
    obtain ⟨us, h1, h2⟩ := hs
    exact ⟨us, h1, unL_is h2⟩
  | .fn f cs, u, hs => by
    simp only [SV.up, SV.Is] at hs ⊢
    obtain ⟨us, h1, h2⟩ := hs
    exact ⟨us, h1, unL_is h2⟩
  | .bnd f cs, u, hs => by
    simp only [SV.up, SV.Is] at hs ⊢
    obtain ⟨us, h1, h2⟩ := hs
    exact ⟨us, h1, unL_is h2⟩
theorem unL_is {r t : List Loc} : ∀ {s : List SV} {u : List Value}, SV.IsL (r ++ t) (upL r.length s) u → SV.IsL t s u
  | [], u, hs => by simpa only [upL, SV.IsL] using hs
  | c :: cs, u, hs => by
    simp only [upL, SV.IsL] at hs ⊢
    obtain ⟨x, y, h1, h2, h3⟩ := hs
    exact ⟨x, y, h1, un_is h2, unL_is h3⟩
end
theorem mapsUn_is {r t : List Loc} {d : TypeDesc} : ∀ {n : Nat} {ps : List (Value × SV)} {es : List MapEntry}, MapIs (r ++ t) d n (ps.map fun p => (p.1, p.2.up r.length)) es → MapIs t d n ps es
  | n, [], es, h => h
  | n, p :: ps, es, h => by
    obtain ⟨e, t', rfl, h1, h2, h3, h4, h5⟩ := h
    exact ⟨e, t', rfl, h1, un_is h2, h3, h4, mapsUn_is h5⟩
theorem mapM_un {r t : List Loc} : ∀ {refs : List Nat} {ls : List Loc}, (refs.map (r.length + ·)).mapM ((r ++ t)[·]?) = some ls → refs.mapM (t[·]?) = some ls
  | [], ls, h => h
  | k :: ks, ls, h => by
    rw [List.map_cons, List.mapM_cons] at h
    rw [List.mapM_cons]
    obtain ⟨a, ha, h⟩ := Option.bind_eq_some_iff.1 h
    obtain ⟨b, hb, h⟩ := Option.bind_eq_some_iff.1 h
    rw [List.getElem?_append_right (by omega), Nat.add_sub_cancel_left] at ha
    simp only [ha, mapM_un hb]
    exact h
theorem ExtIs.un {r t : List Loc} {w : World} {l : Loc} {o : SObj} (h : ExtIs (r ++ t) w l (o.up r.length)) : ExtIs t w l o := by
  obtain ⟨own, cells⟩ := o
  rename_i x
  obtain ⟨x⟩ := x
  cases x with
  | no => trivial
  | map kt ps =>
    obtain ⟨⟨h1, h2, h3⟩, es, h4, h5⟩ := (show (_ ∧ _ ∧ _) ∧ ∃ es, _ ∧ _ from h)
    rw [List.length_map] at h4
    have h1' : cells = [] := List.length_eq_zero_iff.1 (by rw [← upL_len r.length]; exact congrArg List.length (show upL r.length cells = [] from h1))
    exact (show (_ ∧ _ ∧ _) ∧ ∃ es, _ ∧ _ from ⟨⟨h1', h2, h3⟩, es, h4, mapsUn_is h5⟩)
  | abs A refs => exact h
theorem HidIs.un {r t : List Loc} {w : World} {l : Loc} {fp : List Nat} {o : SObj} (h : HidIs (r ++ t) w l fp (o.up r.length)) : HidIs t w l fp o := by
  obtain ⟨own, cells⟩ := o
  rename_i x
  obtain ⟨x⟩ := x
  cases x with
  | no => trivial
  | map kt ps => trivial
  | abs A refs =>
    obtain ⟨ls, h2, h3⟩ := (show ∃ ls, _ ∧ _ from h)
    exact (show ∃ ls, _ ∧ _ from ⟨ls, mapM_un h2, h3⟩)
/-- An object of some own part of a memory, elsewhere. -/
theorem ObjAt.shift {base base' : Nat → Prop} {r r' t : List Loc} {w : World} {l : Loc} {o : SObj} (h : ObjAt base (r ++ t) w l (o.up r.length)) (hb : o.own = true → base' l.blk) : ObjAt base' (r' ++ t) w l (o.up r'.length) := by
  obtain ⟨g1, g5, g6, g7, g8⟩ := h
  have hc : ∀ d, (o.up d).cells.length = o.cells.length := fun d => by simp only [SObj.up, upL_len]
  refine ⟨fun hm hal => ?_, by rw [hc]; rw [hc] at g5; exact g5, hb, g7, g8.un.up⟩
  obtain ⟨c, T, fr, g1, g2, g3, g4⟩ := g1 (by rw [isM_up] at hm ⊢; exact hm) (by
    rcases hal with h | h
    · exact .inl h
    · refine .inr fun e => h ?_
      have e2 := congrArg List.length e
      rw [hc] at e2
      exact List.length_eq_zero_iff.1 (by rw [hc]; simpa using e2))
  refine ⟨c, T, fr, g1, g2, ?_, g4⟩
  rw [hc] at g3 ⊢
  exact upL_is (unL_is g3)
/-- An object is shut again, new objects come out of it. -/
theorem St.shutX [I : Inp] (hst : St base w0 r m W) {F : Nat → List Nat} (hF : Hid base r m W F) {j n : Nat} {l : Loc} {A : Abs} {P' : List SV → Mem → Prop} {refs : List Nat} {os os' : List RO} (hl : r[j]? = some l) (hm : m[j]? = some (absO A refs))
    (hnd : (j :: refs).Nodup) (hrn : refs.length = n) (hon : os.length = n) (hos : ∀ (i q : Nat) (o : RO), refs[i]? = some q → os[i]? = some o → m[q]? = some (o.out (j :: refs)) ∧ o.ok (n + 1))
    {ls rH rX : List Loc} (hls : refs.mapM (r[·]?) = some ls) {J : Inp} {h' : List SV} {H' X : Mem} (hX : ∀ o ∈ X, o.own = true) (hrH : rH.length = H'.length)
    (hst' : @St J (opB W r F (j :: refs)) W ((l :: (ls ++ rH)) ++ rX) (opM h' os' H' ++ X.map (SObj.up (opM h' os' H').length)) W1) (hon' : os'.length = n) (hok' : ∀ o ∈ os', o.ok (n + 1)) (hP : P' h' (H' ++ X.map fun _ => ⟨false, []⟩)) (hown' : ∀ o ∈ H', o.own = true ∨ o.cells = [])
    {mF : Mem} (e0 : mF.length = m.length) (e1 : mF[j]? = some (absO (hide n P') refs)) (e2 : ∀ (i q : Nat) (o : RO), refs[i]? = some q → os'[i]? = some o → mF[q]? = some (o.out (j :: refs))) (e3 : ∀ k, k ∉ j :: refs → mF[k]? = m[k]?) :
    @St I base w0 (r ++ rX) (mF ++ X.map (SObj.up m.length)) W1 := by
  obtain ⟨F2o, hF2o⟩ := @St.hid J _ _ _ _ _ hst'
  obtain ⟨hlsn', _⟩ := mapM_get hls
  generalize hR : l :: (ls ++ rH) = R at hst' hF2o
  have hRl : R.length = (opM h' os' H').length := by rw [← hR]; simp [opM]; omega
  have lenX : rX.length = X.length := by
    have := @St.len J _ _ _ _ _ hst'
    simp at this; omega
  generalize hM : opM h' os' H' = M at hst' hF2o hRl
  have hMx : opM h' os' (H' ++ X.map fun _ => (⟨false, []⟩ : SObj)) = M ++ X.map fun _ => ⟨false, []⟩ := by rw [← hM]; simp [opM]
  -- what comes out, forgotten
  have wk := @St.weak _ _ _ _ _ J hst' F2o hF2o (M ++ X.map fun _ => ⟨false, []⟩) (by simp) (fun k o o' q1 q2 => by
    by_cases hk : k < M.length
    · rw [List.getElem?_append_left hk] at q1 q2
      rw [q1] at q2; injection q2 with q2; exact .inl q2.symm
    · rw [List.getElem?_append_right (by omega), List.getElem?_map] at q2
      obtain ⟨_, _, q2⟩ := Option.map_eq_some_iff.1 q2
      exact .inr q2.symm) (fun k => if k < M.length then F2o k else []) (fun k => by
    by_cases hk : k < M.length
    · exact .inl (if_pos hk)
    · refine .inr ⟨if_neg hk, fun o' q2 => ?_⟩
      rw [List.getElem?_append_right (by omega), List.getElem?_map] at q2
      obtain ⟨_, _, q2⟩ := Option.map_eq_some_iff.1 q2
      rw [← q2]; rfl)
  have hR2 : R ++ rX = l :: (ls ++ (rH ++ rX)) := by rw [← hR]; simp
  obtain ⟨hs1, F3, h3, h3o, h3far, h3blk, h3in, h3loc, hB⟩ := @St.shut _ _ _ _ _ _ I hst F hF j n l A P' refs os os' hl hm hnd hrn hon hos ls (rH ++ rX) hls J h' (H' ++ X.map fun _ => ⟨false, []⟩) (by rw [hMx, ← hR2]; exact wk.1) hon' hok' hP (by
    intro o ho
    rcases List.mem_append.1 ho with ho | ho
    · exact hown' o ho
    · obtain ⟨_, _, rfl⟩ := List.mem_map.1 ho; exact .inr rfl) mF e0 e1 e2 e3 _ (by rw [hMx, ← hR2]; exact wk.2)
  rw [hMx, ← hR2] at h3in h3loc
  have obj' := @St.obj J _ _ _ _ _ hst'
  have sep' := @St.sep J _ _ _ _ _ hst'
  -- the new ones in the hider's memory
  have inX : ∀ (i : Nat) (lx : Loc) (o : SObj), rX[i]? = some lx → X[i]? = some o → (R ++ rX)[M.length + i]? = some lx ∧ (M ++ X.map (SObj.up M.length))[M.length + i]? = some (o.up M.length) ∧ (o.up M.length).own = true := by
    intro i lx o q1 q2
    refine ⟨?_, ?_, hX o (List.mem_of_getElem? q2)⟩
    · rw [List.getElem?_append_right (by omega), hRl, Nat.add_sub_cancel_left]; exact q1
    · rw [List.getElem?_append_right (by omega), Nat.add_sub_cancel_left, List.getElem?_map, q2]; rfl
  have Xb : ∀ (i : Nat) (lx : Loc) (o : SObj), rX[i]? = some lx → X[i]? = some o → opB W r F (j :: refs) lx.blk := fun i lx o q1 q2 => by
    obtain ⟨a, b, c⟩ := inX i lx o q1 q2
    exact (obj' _ lx _ a b).own c
  have hml : r.length = m.length := @St.len I _ _ _ _ _ hst
  have hmFl : r.length = mF.length := by rw [e0]; exact hml
  have cs : ∀ (k : Nat) (lk : Loc) (o : SObj), (r ++ rX)[k]? = some lk → (mF ++ X.map (SObj.up m.length))[k]? = some o → (k < r.length ∧ r[k]? = some lk ∧ mF[k]? = some o) ∨ ∃ i o2, k = r.length + i ∧ rX[i]? = some lk ∧ X[i]? = some o2 ∧ o = o2.up m.length := by
    intro k lk o q1 q2
    by_cases hk : k < r.length
    · rw [List.getElem?_append_left hk] at q1
      rw [List.getElem?_append_left (by omega)] at q2
      exact .inl ⟨hk, q1, q2⟩
    · rw [List.getElem?_append_right (by omega)] at q1
      rw [List.getElem?_append_right (by omega), List.getElem?_map] at q2
      obtain ⟨o2, q3, q4⟩ := Option.map_eq_some_iff.1 q2
      exact .inr ⟨k - r.length, o2, by omega, q1, by rw [hmFl]; exact q3, q4.symm⟩
  -- an old object that is alive does not lie where a new one does
  have apart1 : ∀ (k : Nat) (lk : Loc) (o : SObj) (i : Nat) (lx : Loc) (ox : SObj), r[k]? = some lk → mF[k]? = some o → (o.own = true ∨ o.cells ≠ []) → rX[i]? = some lx → X[i]? = some ox → lk.blk ≠ lx.blk := by
    intro k lk o i lx ox q1 q2 hal q3 q4
    by_cases hg : k ∈ j :: refs
    · obtain ⟨y, oy, y1, y2, y3⟩ := h3loc k hg lk q1
      have hy : y < M.length := by
        by_cases hy : y < M.length
        · exact hy
        · rw [List.getElem?_append_right (by omega), List.getElem?_map] at y2
          obtain ⟨_, _, y2⟩ := Option.map_eq_some_iff.1 y2
          rw [← y2] at y3; simp at y3
      rw [List.getElem?_append_left hy] at y2
      obtain ⟨a, b, c⟩ := inX i lx ox q3 q4
      exact sep' y (M.length + i) lk lx oy _ y1 a (by rw [List.getElem?_append_left hy]; exact y2) b (by omega) y3 (.inl c)
    · exact fun e => h3blk k lk o hg q1 q2 hal (e ▸ Xb i lx ox q3 q4)
  have apart2 : ∀ (k b : Nat) (i : Nat) (lx : Loc) (ox : SObj), b ∈ F3 k → rX[i]? = some lx → X[i]? = some ox → lx.blk ≠ b := by
    intro k b i lx ox hb q3 q4
    obtain ⟨a, b2, c⟩ := inX i lx ox q3 q4
    by_cases hg : k ∈ j :: refs
    · rcases h3in k hg b hb with ⟨y, ly, oy, y1, y2, y3, rfl⟩ | ⟨y, hy⟩
      · have hy : y < M.length := by
          by_cases hy : y < M.length
          · exact hy
          · rw [List.getElem?_append_right (by omega), List.getElem?_map] at y2
            obtain ⟨_, _, y2⟩ := Option.map_eq_some_iff.1 y2
            rw [← y2] at y3; simp at y3
        rw [List.getElem?_append_left hy] at y2
        exact sep' (M.length + i) y lx ly _ oy a y1 b2 (by rw [List.getElem?_append_left hy]; exact y2) (by omega) c (.inl y3)
      · split at hy
        · exact hF2o.far y b hy _ lx _ a b2 (.inl c)
        · simp at hy
    · rw [h3o k hg] at hb
      exact fun e => h3far k hg b hb (e ▸ Xb i lx ox q3 q4)
  have apart3 : ∀ (k b i : Nat), b ∈ F3 k → b ∈ F2o (M.length + i) → False := by
    intro k b i hb hb2
    by_cases hg : k ∈ j :: refs
    · rcases h3in k hg b hb with ⟨y, ly, oy, y1, y2, y3, rfl⟩ | ⟨y, hy⟩
      · have hy : y < M.length := by
          by_cases hy : y < M.length
          · exact hy
          · rw [List.getElem?_append_right (by omega), List.getElem?_map] at y2
            obtain ⟨_, _, y2⟩ := Option.map_eq_some_iff.1 y2
            rw [← y2] at y3; simp at y3
        rw [List.getElem?_append_left hy] at y2
        exact hF2o.far _ _ hb2 y ly oy y1 (by rw [List.getElem?_append_left hy]; exact y2) (.inl y3) rfl
      · split at hy
        · have := hF2o.apart _ _ b hy hb2; omega
        · simp at hy
    · rw [h3o k hg] at hb
      exact h3far k hg b hb (hF2o.base _ b hb2).1
  have apart4 : ∀ (k : Nat) (lk : Loc) (o : SObj) (i b : Nat), r[k]? = some lk → mF[k]? = some o → (o.own = true ∨ o.cells ≠ []) → b ∈ F2o (M.length + i) → lk.blk ≠ b := by
    intro k lk o i b q1 q2 hal hb
    by_cases hg : k ∈ j :: refs
    · obtain ⟨y, oy, y1, y2, y3⟩ := h3loc k hg lk q1
      have hy : y < M.length := by
        by_cases hy : y < M.length
        · exact hy
        · rw [List.getElem?_append_right (by omega), List.getElem?_map] at y2
          obtain ⟨_, _, y2⟩ := Option.map_eq_some_iff.1 y2
          rw [← y2] at y3; simp at y3
      rw [List.getElem?_append_left hy] at y2
      exact hF2o.far _ b hb y lk oy y1 (by rw [List.getElem?_append_left hy]; exact y2) (.inl y3)
    · exact fun e => h3blk k lk o hg q1 q2 hal (e ▸ (hF2o.base _ b hb).1)
  refine @St.mk I _ _ _ _ _ (@St.low I _ _ _ _ _ hs1) (@St.from_ I _ _ _ _ _ hs1) (@St.inp I _ _ _ _ _ hs1) (by simp [hmFl, lenX]) (fun k lk o q1 q2 => ?_) (fun k k' l1 l2 o o' q1 q1' q2 q2' hne ho hal => ?_)
    ⟨fun k => if k < r.length then F3 k else F2o (M.length + (k - r.length)), fun k lk o q1 q2 => ?_, fun k b hb => ?_, fun k b hb k' lk o q1 q2 hal => ?_, fun k k' b hb hb' => ?_⟩
  · rcases cs k lk o q1 q2 with ⟨hk, a1, a2⟩ | ⟨i, o2, rfl, a1, a2, rfl⟩
    · exact (@St.obj I _ _ _ _ _ hs1 k lk o a1 a2).grow rX
    · obtain ⟨b1, b2, b3⟩ := inX i lk o2 a1 a2
      have hO := obj' _ lk _ b1 b2
      rw [← hRl] at hO
      have := ObjAt.shift (r' := r) hO (base' := base) (fun _ => hB _ (Xb i lk o2 a1 a2))
      rw [hml] at this
      exact this
  · rcases cs k l1 o q1 q2 with ⟨hk, a1, a2⟩ | ⟨i, o2, rfl, a1, a2, rfl⟩ <;> rcases cs k' l2 o' q1' q2' with ⟨hk', b1, b2⟩ | ⟨i', o3, rfl, b1, b2, rfl⟩
    · exact @St.sep I _ _ _ _ _ hs1 k k' l1 l2 o o' a1 b1 a2 b2 hne ho hal
    · exact apart1 k l1 o i' l2 o3 a1 a2 (.inl ho) b1 b2
    · exact fun e => apart1 k' l2 o' i l1 o2 b1 b2 hal a1 a2 e.symm
    · obtain ⟨c1, c2, c3⟩ := inX i l1 o2 a1 a2
      obtain ⟨d1, d2, d3⟩ := inX i' l2 o3 b1 b2
      exact sep' _ _ l1 l2 _ _ c1 d1 c2 d2 (by omega) c3 (.inl d3)
  · rcases cs k lk o q1 q2 with ⟨hk, a1, a2⟩ | ⟨i, o2, rfl, a1, a2, rfl⟩
    · simp only [if_pos hk]
      exact (h3.is k lk o a1 a2).grow rX
    · obtain ⟨b1, b2, b3⟩ := inX i lk o2 a1 a2
      simp only [if_neg (show ¬ r.length + i < r.length by omega), Nat.add_sub_cancel_left]
      have := hF2o.is _ lk _ b1 b2
      rw [← hRl] at this
      have := (this.un).up (r := r)
      rw [hml, hRl] at this
      exact this
  · split at hb
    · exact h3.base k b hb
    · have := hF2o.base _ b hb
      exact ⟨hB b this.1, this.2⟩
  · split at hb
    · rcases cs k' lk o q1 q2 with ⟨hk', a1, a2⟩ | ⟨i, o2, rfl, a1, a2, rfl⟩
      · exact h3.far k b hb k' lk o a1 a2 hal
      · exact apart2 k b i lk o2 hb a1 a2
    · rcases cs k' lk o q1 q2 with ⟨hk', a1, a2⟩ | ⟨i, o2, rfl, a1, a2, rfl⟩
      · exact apart4 k' lk o _ b a1 a2 hal hb
      · obtain ⟨b1, b2, b3⟩ := inX i lk o2 a1 a2
        exact hF2o.far _ b hb _ lk _ b1 b2 (.inl b3)
  · split at hb
    · split at hb'
      · exact h3.apart k k' b hb hb'
      · exact (apart3 k b _ hb hb').elim
    · split at hb'
      · exact (apart3 k' b _ hb' hb).elim
      · have := hF2o.apart _ _ b hb hb'
        omega
end
end Go.Proofs.Ytibefgdjijmncaa.Sz
end
section
namespace Go.Proofs.Ytibefgdjijmncaa.Sz
open Go.RowKit
set_option maxHeartbeats 2000000
/-- Some objects, dead. -/
def killL : Mem → List Nat → Mem
  | m, [] => m
  | m, q :: qs => killL (m.set q ⟨false, []⟩) qs
/-- Some objects, others now. -/
def putL : Mem → List Nat → List SObj → Mem
  | m, q :: qs, o :: os => putL (m.set q o) qs os
  | m, _, _ => m
theorem putL_len : ∀ {qs : List Nat} {os : List SObj} {m : Mem}, (putL m qs os).length = m.length
  | [], _, m => by unfold putL; rfl
  | _ :: _, [], m => by unfold putL; rfl
  | q :: qs, o :: os, m => by unfold putL; rw [putL_len]; simp
theorem putL_not : ∀ {qs : List Nat} {os : List SObj} {m : Mem} {k : Nat}, k ∉ qs → (putL m qs os)[k]? = m[k]?
  | [], _, m, k, h => by unfold putL; rfl
  | _ :: _, [], m, k, h => by unfold putL; rfl
  | q :: qs, o :: os, m, k, h => by
    simp only [List.mem_cons, not_or] at h
    unfold putL
    rw [putL_not h.2, List.getElem?_set_ne (Ne.symm h.1)]
theorem putL_at : ∀ {qs : List Nat} {os : List SObj} {m : Mem} {i q : Nat} {o : SObj}, qs.Nodup → qs[i]? = some q → os[i]? = some o → q < m.length → (putL m qs os)[q]? = some o
  | [], _, m, i, q, o, _, h, _, _ => by simp at h
  | _ :: _, [], m, i, q, o, _, _, h, _ => by simp at h
  | q' :: qs, o' :: os, m, 0, q, o, hn, h1, h2, hq => by
    simp at h1 h2; subst h1; subst h2
    rw [List.nodup_cons] at hn
    unfold putL
    rw [putL_not hn.1, List.getElem?_set_self hq]
  | q' :: qs, o' :: os, m, i + 1, q, o, hn, h1, h2, hq => by
    rw [List.nodup_cons] at hn
    unfold putL
    exact putL_at hn.2 (by simpa using h1) (by simpa using h2) (by simpa using hq)
section
variable {base : Nat → Prop} {w0 W W1 : World} {r : List Loc} {m : Mem}
theorem St.killL [Inp] (qs : List Nat) (h : St base w0 r m W) : St base w0 r (Sz.killL m qs) W := by
  induction qs generalizing m with
  | nil => exact h
  | cons q qs ih => exact ih (h.kill1 q)
theorem killL_get : ∀ {qs : List Nat} {m : Mem} {k : Nat} {o : SObj}, (killL m qs)[k]? = some o → o = ⟨false, []⟩ ∨ (k ∉ qs ∧ m[k]? = some o)
  | [], m, k, o, h => .inr ⟨by simp, h⟩
  | q :: qs, m, k, o, h => by
    unfold Sz.killL at h
    rcases killL_get h with h | ⟨h1, h2⟩
    · exact .inl h
    · rw [List.getElem?_set] at h2
      by_cases e : q = k
      · subst e
        simp at h2
        exact .inl h2.2.symm
      · rw [if_neg e] at h2
        exact .inr ⟨by simp [h1, Ne.symm e], h2⟩
theorem knows_op {I : Inp} (hst : St base w0 r m W) {F : Nat → List Nat} (hF : Hid base r m W F) {g : List Nat} (hgo : ∀ x ∈ g, ∃ o, m[x]? = some o ∧ o.own = true) (n : Nat) {s : SV} {u : Value} (hs : s.Is r u) : Knows I (opI W (opB W r F g) n) (killL m g) s u := by
  have hst' := hst.killL g
  refine ⟨fun x hx => by subst hx; simpa only [SV.Is] using hs, fun ys hx => ?_, fun z k ys hsl => ?_⟩
  · subst hx
    simp only [SV.Is] at hs
    obtain ⟨us, rfl, hus⟩ := hs
    rw [isL_v_inv hus]
  · obtain ⟨p, c, us, rfl, hus, hlen, hcell⟩ := sl_cells hst' hsl hs
    have hxl := slOf_len hsl
    obtain rfl := isL_v_inv hus
    refine ⟨p, c, rfl, inpL_of (I := opI W (opB W r F g) n) (by simpa using hxl) fun hne => ?_⟩
    rcases hcell with ⟨a, rfl, hc⟩ | ⟨_, h0⟩
    · have hc := hc W (Same.refl _ _)
      obtain ⟨x, hx⟩ : ∃ x, us[0]? = some x := by
        cases us with
        | nil => exact (hne rfl).elim
        | cons x _ => exact ⟨x, rfl⟩
      have h0 := hc 0 x hx
      rw [add_zero_addr] at h0
      have hap : ¬ opB W r F g a.block := by
        have hlt := cell_lt h0
        unfold slOf at hsl
        split at hsl
        · rename_i kk o n1 sz
          simp only [SV.Is] at hs
          obtain ⟨l, cap, hl, _, _, hu⟩ := hs
          injection hu with hu; injection hu with hu
          subst hu
          split at hsl
          · split at hsl
            · rename_i ob hob
              split at hsl
              · injection hsl with hsl; injection hsl with h1 h2
                have hcn : ob.cells ≠ [] := by
                  intro he
                  rw [he] at h2
                  simp at h2
                  exact hne h2
                rcases killL_get hob with rfl | ⟨hk, hob⟩
                · exact (hcn rfl).elim
                · intro hb
                  rcases hb with hb | ⟨x, hx, hb⟩
                  · exact absurd hlt (by simp only; omega)
                  · obtain ⟨ox, hox, howx⟩ := hgo x hx
                    rcases hb with ⟨lx, h3, h4⟩ | hb
                    · exact hst.sep x kk lx l ox ob h3 hl hox hob (fun e => hk (e ▸ hx)) howx (.inr hcn) h4.symm
                    · exact hF.far x _ hb kk l ob hl hob (.inr hcn) rfl
              · cases hsl
            · cases hsl
          · cases hsl
        · rename_i p n1 c1
          obtain ⟨vs, h1, h2⟩ := Option.map_eq_some_iff.1 hsl
          injection h2 with h2 h3
          simp only [SV.Is] at hs
          injection hs with e1 e2 e3
          subst e1
          obtain ⟨hlen2, hat⟩ := inpL_some h1
          have hk : n1 * z ≠ 0 := by
            intro h0
            rw [h0] at hlen2
            rw [List.length_eq_zero_iff.1 hlen2] at h3
            exact hne (by simpa using h3.symm)
          obtain ⟨a', ha', _, hat⟩ := hat hk
          injection ha' with ha'
          subst ha'
          obtain ⟨y, hy⟩ : ∃ y, vs[0]? = some y := by
            cases vs with
            | nil => simp at hlen2; omega
            | cons y _ => exact ⟨y, rfl⟩
          have := hat 0 y hy
          rw [add_zero_addr] at this
          exact fun hb => (hst.inp _ _ this).1 (opB_base hst hF hgo hb)
        · injection hsl with hsl; injection hsl with h1 h2
          exact (hne (by simpa using h2.symm)).elim
        · injection hsl with hsl; injection hsl with h1 h2
          exact (hne (by simpa using h2.symm)).elim
        · cases hsl
      refine ⟨a, rfl, World.cell?_spot h0, fun i u hi => ?_⟩
      show (open Classical in if opB W r F g (a.add i).block then none else W.cell? (a.add i)) = some u
      have e : (a.add i).block = a.block := by unfold Addr.add; split <;> rfl
      rw [if_neg (by rw [e]; exact hap)]
      exact hc i u hi
    · exact (hne h0).elim
theorem knowsL_op {I : Inp} (hst : St base w0 r m W) {F : Nat → List Nat} (hF : Hid base r m W F) {g : List Nat} (hgo : ∀ x ∈ g, ∃ o, m[x]? = some o ∧ o.own = true) (n : Nat) : ∀ {ss : List SV} {us : List Value}, SV.IsL r ss us → KnowsL I (opI W (opB W r F g) n) (killL m g) ss us
  | [], us, h => by simpa only [SV.IsL, KnowsL] using h
  | s :: ss, us, h => by
    simp only [SV.IsL] at h
    obtain ⟨u, t, rfl, h1, h2⟩ := h
    exact ⟨u, t, rfl, knows_op hst hF hgo n h1, knowsL_op hst hF hgo n h2⟩
end
/-- What comes of a method: what is hidden now, what it leads to, new objects, and the value. -/
structure Out where
  h : List SV
  os : List RO
  H : Mem
  X : Mem
  s : SV
def Out.mem (o : Out) : Mem := opM o.h o.os o.H ++ o.X.map (SObj.up (opM o.h o.os o.H).length)
theorem ptr_inv0 {r : List Loc} {j o : Nat} {vs : List Value} {l : List SV} (h : SV.IsL r (.ptr j o :: l) vs) : ∃ lc t, r[j]? = some lc ∧ vs = .pointer (some ⟨lc.blk, lc.off + o, none⟩) :: t ∧ SV.IsL r l t := by
  simp only [SV.IsL, SV.Is] at h
  obtain ⟨u, t, rfl, ⟨lc, hl, rfl⟩, ht⟩ := h
  exact ⟨lc, t, hl, rfl, ht⟩
section
variable {P : Program} {f : FuncId} {eff : List FuncId} {N : Nat} {x : XC} {rs : List XR}
/-- A method of an object that hides what it is made of: walked over that, and over the objects that it leads to. -/
theorem Contract.methA [I : Inp] (hF : FnX P f eff N x rs) {G : Inp → List CEntry} (hG : ∀ J, @GOk J P (G J)) (tr : Trans)
    (body : ∀ args m k, tr args m k → ∃ (j n : Nat) (us : List SV) (Q : List SV → Mem → Prop) (refs : List Nat) (os : List RO), args = .ptr j 0 :: us ∧ m[j]? = some (absO (hide n Q) refs) ∧ (j :: refs).Nodup ∧ refs.length = n ∧ os.length = n ∧
      (∀ (i q : Nat) (o : RO), refs[i]? = some q → os[i]? = some o → m[q]? = some (o.out (j :: refs)) ∧ o.ok (n + 1)) ∧ us.length + 1 ≤ N ∧
      ∀ h H, Q h H → ∀ J : Inp, J.keep = n + 1 → ∀ vs, KnowsL I J (killL m (j :: refs)) us vs →
        @evX J P N eff (G J) x (slots (argSlots 0 (.ptr 0 0 :: vs.map SV.of))) (opM h os H) (fun ex e m' => EndsX ex ∧ evR rs e m' fun s => ∃ (c : Out) (Q' : List SV → Mem → Prop) (g : List Nat), NdL g c.mem ∧ FitM g m' g c.mem ∧ @KeepOk J g ∧ Le g (c.s.up (opM c.h c.os c.H).length) s ∧
          c.os.length = n ∧ (∀ o ∈ c.os, o.ok (n + 1)) ∧ Q' c.h (c.H ++ c.X.map fun _ => ⟨false, []⟩) ∧ (∀ o ∈ c.H, o.own = true ∨ o.cells = []) ∧ (∀ o ∈ c.X, o.own = true) ∧
          k (c.s.up m.length) (putL m (j :: refs) (absO (hide n Q') refs :: c.os.map (RO.out (j :: refs))) ++ c.X.map (SObj.up m.length)))) : Contract P f false tr := by
  refine ⟨hF.enter, fun args m k base w0 W r vs ht hst ha => ?_⟩
  obtain ⟨j, n, us, Q, refs, os, rfl, hm, hnd, hrn, hon, hos, hlen, hev⟩ := body args m k ht
  obtain ⟨l, vs, hl, rfl, ha2⟩ := ptr_inv0 ha
  obtain ⟨F, hFF⟩ := @St.hid I _ _ _ _ _ hst
  obtain ⟨h, H, ls, rH, hQ, hlsn, hrH, hls, hop⟩ := @St.open_ _ _ _ _ _ I hst F hFF j n l Q refs os hl hm hnd hrn hon hos
  have hgo : ∀ x ∈ j :: refs, ∃ o, m[x]? = some o ∧ o.own = true := by
    intro x hx
    rcases List.mem_cons.1 hx with rfl | hx
    · exact ⟨_, hm, rfl⟩
    · obtain ⟨i, hi⟩ := List.getElem?_of_mem hx
      obtain ⟨o, ho⟩ : ∃ o, os[i]? = some o := ⟨_, List.getElem?_eq_getElem (by have := (List.getElem?_eq_some_iff.1 hi).1; omega)⟩
      exact ⟨_, (hos i x o hi ho).1, RO.out_own⟩
  have hk := knowsL_op (I := I) hst hFF hgo (n + 1) ha2
  have hvl := IsL_len ha2
  have hargs : @SV.IsL (l :: (ls ++ rH)) (.ptr 0 0 :: vs.map SV.of) (.pointer (some ⟨l.blk, l.off + 0, none⟩) :: vs) := by
    simp only [SV.IsL, SV.Is]
    exact ⟨_, _, rfl, ⟨l, rfl, rfl⟩, isL_of vs⟩
  refine (@FnX.calls P f eff N x rs (G (opI W (opB W r F (j :: refs)) (n + 1))) (opI W (opB W r F (j :: refs)) (n + 1)) hF (hG _) _ _ _ _ _ _ _ hop hargs (by simp; omega) _ (hev h H hQ _ rfl vs hk)).mono ?_
  rintro e W1 ⟨s, m', r', u, ⟨c, Q', g, hnl, hfm, hkg, hle, c1, c2, c3, c4, c5, hkk⟩, rfl, hst1, hs, hkp⟩
  obtain ⟨r2, hst2, hr2, _⟩ := @fit_sound (opI W (opB W r F (j :: refs)) (n + 1)) 0 _ (fun _ => .any) _ _ [] _ _ _ _ #[] hnl hfm hst1
  -- the first locations are kept
  have hlen2 : r2.length = c.mem.length := @St.len (opI W (opB W r F (j :: refs)) (n + 1)) _ _ _ _ _ hst2
  have hkeep : ∀ q, q < n + 1 → r2[q]? = (l :: (ls ++ rH))[q]? := by
    intro q hq
    obtain ⟨lq, hlq⟩ : ∃ lq, (l :: (ls ++ rH))[q]? = some lq := ⟨_, List.getElem?_eq_getElem (by simp; omega)⟩
    rw [hlq]
    exact hr2 q q (hkg q hq) lq (hkp q lq hq hlq)
  have hopl : (opM c.h c.os c.H).length = n + 1 + c.H.length := by simp [opM, c1]; omega
  have hml : c.mem.length = n + 1 + c.H.length + c.X.length := by simp [Out.mem, hopl]
  obtain ⟨rH2, rX2, hsplit, hrH2⟩ : ∃ rH2 rX2, r2 = (l :: (ls ++ rH2)) ++ rX2 ∧ rH2.length = c.H.length := by
    refine ⟨(r2.drop (n + 1)).take c.H.length, (r2.drop (n + 1)).drop c.H.length, ?_, by simp; omega⟩
    have e1 : r2.take (n + 1) = l :: ls := by
      apply List.ext_getElem?
      intro q
      rw [List.getElem?_take]
      split
      · rename_i hq
        rw [hkeep q hq]
        cases q with
        | zero => rfl
        | succ q => rw [List.getElem?_cons_succ, List.getElem?_cons_succ, List.getElem?_append_left (by omega)]
      · rename_i hq
        rw [List.getElem?_eq_none (by simp; omega)]
    calc r2 = r2.take (n + 1) ++ r2.drop (n + 1) := (List.take_append_drop _ _).symm
      _ = (l :: ls) ++ ((r2.drop (n + 1)).take c.H.length ++ (r2.drop (n + 1)).drop c.H.length) := by rw [e1, List.take_append_drop]
      _ = _ := by simp
  subst hsplit
  have hj : j < m.length := (List.getElem?_eq_some_iff.1 hm).1
  have hsh := @St.shutX _ _ _ _ _ _ I hst F hFF j n l _ Q' refs os c.os hl hm hnd hrn hon hos ls rH2 rX2 hls _ c.h c.H c.X c5 hrH2 hst2 c1 c2 c3 c4
    (putL m (j :: refs) (absO (hide n Q') refs :: c.os.map (RO.out (j :: refs)))) putL_len (putL_at (i := 0) hnd rfl rfl hj) (fun i q o hq ho => putL_at (i := i + 1) hnd (by simpa using hq) (by simp [ho]) (by
      obtain ⟨o1, ho1⟩ : ∃ o, os[i]? = some o := ⟨_, List.getElem?_eq_getElem (by have := (List.getElem?_eq_some_iff.1 ho).1; omega)⟩
      exact (List.getElem?_eq_some_iff.1 (hos i q o1 hq ho1).1).1)) (fun k hk => putL_not hk)
  have hml2 : r.length = m.length := @St.len I _ _ _ _ _ hst
  refine ⟨_, _, rX2, u, hkk, rfl, hsh, ?_, fun h => by cases h⟩
  have hu := Le.is hr2 hle hs
  have hRl : (opM c.h c.os c.H).length = (l :: (ls ++ rH2)).length := by rw [hopl]; simp; omega
  rw [hRl] at hu
  have := up_is (r := r) (un_is hu)
  rw [hml2] at this
  exact this
/-- A function walked with the caller's own memory. -/
theorem kept_ext' [Inp] {r r' : List Loc} {n : Nat} (h : Inp.keep = n) (hn : n = r.length) (hk : Kp r r') : ∃ t, r' = r ++ t := by
  refine ⟨r'.drop r.length, ?_⟩
  apply List.ext_getElem?
  intro k
  by_cases hlt : k < r.length
  · rw [List.getElem?_append_left hlt, List.getElem?_eq_getElem hlt]
    exact hk k _ (by omega) (List.getElem?_eq_getElem hlt)
  · rw [List.getElem?_append_right (by omega), List.getElem?_drop]
    congr 1
    omega
theorem Contract.full [I : Inp] (hF : FnX P f eff N x rs) {G : Inp → List CEntry} (hG : ∀ J, @GOk J P (G J)) (tr : Trans)
    (body : ∀ args m k, tr args m k → args.length ≤ N ∧ ∀ J : Inp, J.keep = m.length → J.at_ = I.at_ → @evX J P N eff (G J) x (slots (argSlots 0 args)) m (fun ex e m' => EndsX ex ∧ evR rs e m' fun s => k s m')) : Contract P f false tr := by
  refine ⟨hF.enter, fun args m k base w0 W r vs ht hst ha => ?_⟩
  obtain ⟨hlen, hev⟩ := body args m k ht
  have hl := @St.len I _ _ _ _ _ hst
  have hst2 : @St ⟨I.at_, m.length⟩ base w0 r m W := @St.mk ⟨I.at_, m.length⟩ _ _ _ _ _ (@St.low I _ _ _ _ _ hst) (@St.from_ I _ _ _ _ _ hst) (@St.inp I _ _ _ _ _ hst) hl (@St.obj I _ _ _ _ _ hst) (@St.sep I _ _ _ _ _ hst) (@St.hid I _ _ _ _ _ hst)
  refine (@FnX.calls P f eff N x rs (G ⟨I.at_, m.length⟩) ⟨I.at_, m.length⟩ hF (hG _) _ _ _ _ _ _ _ hst2 ha hlen (fun s m' => k s m') (hev ⟨I.at_, m.length⟩ rfl rfl)).mono ?_
  rintro e W1 ⟨s, m', r', u, hk, rfl, hst1, hs, hkp⟩
  obtain ⟨t, rfl⟩ := @kept_ext' ⟨I.at_, m.length⟩ _ _ _ rfl hl.symm hkp
  exact ⟨s, m', t, u, hk, rfl, @St.mk I _ _ _ _ _ (@St.low ⟨I.at_, m.length⟩ _ _ _ _ _ hst1) (@St.from_ ⟨I.at_, m.length⟩ _ _ _ _ _ hst1) (@St.inp ⟨I.at_, m.length⟩ _ _ _ _ _ hst1) (@St.len ⟨I.at_, m.length⟩ _ _ _ _ _ hst1) (@St.obj ⟨I.at_, m.length⟩ _ _ _ _ _ hst1) (@St.sep ⟨I.at_, m.length⟩ _ _ _ _ _ hst1) (@St.hid ⟨I.at_, m.length⟩ _ _ _ _ _ hst1), hs, fun h => by cases h⟩
end
theorem killL_not : ∀ {qs : List Nat} {m : Mem} {k : Nat}, k ∉ qs → (killL m qs)[k]? = m[k]?
  | [], m, k, h => rfl
  | q :: qs, m, k, h => by
    simp only [List.mem_cons, not_or] at h
    unfold killL
    rw [killL_not h.2, List.getElem?_set_ne (Ne.symm h.1)]
theorem killL_len : ∀ {qs : List Nat} {m : Mem}, (killL m qs).length = m.length
  | [], m => rfl
  | q :: qs, m => by unfold killL; rw [killL_len]; simp
section
variable {base : Nat → Prop} {w0 W : World} {r : List Loc} {m : Mem}
theorem St.seal [I : Inp] (hst : St base w0 r m W) {j n : Nat} {refs gh : List Nat} {h : List SV} {H : Mem} {Q : List SV → Mem → Prop} (hrn : refs.length = n) (hnd : (j :: (refs ++ gh)).Nodup) (hfm : FitM (j :: (refs ++ gh)) m (j :: (refs ++ gh)) (hidM n h H)) (hQ : Q h H) (hown : ∀ o ∈ H, o.own = true ∨ o.cells = []) :
    St base w0 r ((Sz.killL m gh).set j (absO (hide n Q) refs)) W := by
  obtain ⟨F, hF⟩ := hst.hid
  obtain ⟨hstR, hrR, _⟩ := fit_sound' (N := 0) (e := fun _ => .any) (l := []) (ts := #[]) (NdL_of hnd) hfm hst
  have hF2 := fit_hid (NdL_of hnd) hfm hst hF
  have hF2d : ∀ k, ∀ b ∈ fitF (j :: (refs ++ gh)) (hidM n h H) F k, ∃ q o, (j :: (refs ++ gh))[k]? = some q ∧ (hidM n h H)[k]? = some o ∧ o.isA = true ∧ b ∈ F q := by
    intro k b hb
    unfold fitF at hb
    split at hb
    · rename_i o ho
      split at hb
      · rename_i ha
        split at hb
        · rename_i q hq
          exact ⟨q, o, hq, ho, ha, hb⟩
        · simp at hb
      · simp at hb
    · simp at hb
  generalize fitF (j :: (refs ++ gh)) (hidM n h H) F = F2 at hF2 hF2d
  generalize fitR (j :: (refs ++ gh)) r = R at hstR hrR hF2
  obtain ⟨hgl, hgo⟩ := FitM_get hfm
  have hHl : gh.length = H.length := by simp [hidM, hrn] at hgl; omega
  obtain ⟨o0, q0, hj0, hj1, hj2⟩ := hgo 0 _ hidM_0
  simp at hj0; subst hj0
  have hj : j < m.length := (List.getElem?_eq_some_iff.1 hj1).1
  have how0 : q0.own = true := by
    rcases hj2 with hj2 | ⟨hj2, _⟩
    · cases hj2
    · exact hj2 rfl
  have hlen := hst.len
  obtain ⟨l, hl⟩ : ∃ l, r[j]? = some l := ⟨_, List.getElem?_eq_getElem (by omega)⟩
  have hRlen : R.length = n + 1 + H.length := by rw [hstR.len]; simp [hidM]; omega
  have hR0 : R[0]? = some l := hrR 0 j rfl l hl
  have nd2 := hnd
  rw [List.nodup_cons, List.nodup_append] at nd2
  obtain ⟨nj, nr, ng, nrg⟩ := nd2
  have njr : j ∉ refs := fun e => nj (List.mem_append_left _ e)
  have njg : j ∉ gh := fun e => nj (List.mem_append_right _ e)
  obtain ⟨ls, rH, hR, hlsn⟩ : ∃ ls rH, R = l :: (ls ++ rH) ∧ ls.length = n := by
    refine ⟨(R.drop 1).take n, (R.drop 1).drop n, ?_, by simp; omega⟩
    rw [List.take_append_drop]
    cases R with
    | nil => simp at hRlen; omega
    | cons a R => simp at hR0; subst hR0; rfl
  have hrH : rH.length = H.length := by rw [hR] at hRlen; simp at hRlen; omega
  -- the locations of what it leads to
  have hls : refs.mapM (r[·]?) = some ls := by
    refine mapM_some (by omega) fun i q lq hq hlq => ?_
    have hi : i < n := by have := (List.getElem?_eq_some_iff.1 hq).1; omega
    obtain ⟨o2, p2, b1, b2, b3⟩ := hgo (i + 1) _ (hidM_ref hi)
    rw [List.getElem?_cons_succ, List.getElem?_append_left (by omega), hq] at b1
    injection b1 with b1; subst b1
    obtain ⟨lx, hlx⟩ : ∃ lx, r[q]? = some lx := ⟨_, List.getElem?_eq_getElem (by have := (List.getElem?_eq_some_iff.1 b2).1; omega)⟩
    have e := hrR (i + 1) q (by rw [List.getElem?_cons_succ, List.getElem?_append_left (by omega)]; exact hq) lx hlx
    rw [hR, refs_get hlsn hi, hlq] at e
    injection e with e; subst e; exact hlx
  subst hR
  have own0 : ∀ (k : Nat) (o : SObj), (hidM n h H)[k]? = some o → o.own = true → k = 0 ∨ n < k := by
    intro k o hk ho
    rcases hidM_cases hk with ⟨rfl, _⟩ | ⟨i, _, rfl, rfl⟩ | ⟨i, rfl, _⟩
    · exact .inl rfl
    · simp at ho
    · exact .inr (by omega)
  -- what a hidden object was
  have was : ∀ (k : Nat) (lk : Loc) (o : SObj), (l :: (ls ++ rH))[k]? = some lk → (hidM n h H)[k]? = some o → n < k → ∃ (q : Nat) (o1 : SObj), q ∈ gh ∧ r[q]? = some lk ∧ m[q]? = some o1 ∧ (o.own = true → o1.own = true) := by
    intro k lk o h1 h2 hk
    obtain ⟨q, o1, b1, b2, b3⟩ := hgo k o h2
    have hqr : q ∈ gh := by
      obtain ⟨k', rfl⟩ : ∃ k', k = k' + 1 := ⟨k - 1, by omega⟩
      rw [List.getElem?_cons_succ, List.getElem?_append_right (by omega)] at b1
      exact List.mem_of_getElem? b1
    obtain ⟨lx, hlx⟩ : ∃ lx, r[q]? = some lx := ⟨_, List.getElem?_eq_getElem (by have := (List.getElem?_eq_some_iff.1 b2).1; omega)⟩
    have e := hrR k q b1 lx hlx
    rw [h1] at e; injection e with e; subst e
    refine ⟨q, o1, hqr, hlx, b2, fun ho => ?_⟩
    rcases b3 with rfl | ⟨b3, _⟩
    · simp at ho
    · exact b3 ho
  let fpN : List Nat := (List.range (l :: (ls ++ rH)).length).flatMap fun k => if n < k then (match (l :: (ls ++ rH))[k]?, (hidM n h H)[k]? with | some lk, some o => if o.own = true then [lk.blk] else [] | _, _ => []) ++ F2 k else []
  have fpm : ∀ b, b ∈ fpN ↔ ∃ k, k < (l :: (ls ++ rH)).length ∧ n < k ∧ ((∃ lk o, (l :: (ls ++ rH))[k]? = some lk ∧ (hidM n h H)[k]? = some o ∧ o.own = true ∧ b = lk.blk) ∨ b ∈ F2 k) := by
    intro b
    simp only [fpN, List.mem_flatMap, List.mem_range]
    constructor
    · rintro ⟨k, hk, hb⟩
      split at hb
      · rename_i hn
        refine ⟨k, hk, hn, ?_⟩
        rcases List.mem_append.1 hb with hb | hb
        · split at hb
          · rename_i lk o h1 h2
            split at hb
            · rename_i ho
              simp at hb
              exact .inl ⟨lk, o, h1, h2, ho, hb⟩
            · simp at hb
          · simp at hb
        · exact .inr hb
      · simp at hb
    · rintro ⟨k, hk, hn, hb⟩
      refine ⟨k, hk, ?_⟩
      rw [if_pos hn]
      rcases hb with ⟨lk, o, h1, h2, ho, rfl⟩ | hb
      · simp [h1, h2, ho]
      · simp [hb]
  have F2q : ∀ k, ∀ b ∈ F2 k, n < k ∧ ∃ q ∈ gh, b ∈ F q := by
    intro k b hb
    obtain ⟨q, o, b1, b2, b3, b4⟩ := hF2d k b hb
    have hk : n < k := by
      rcases hidM_cases b2 with ⟨rfl, rfl⟩ | ⟨i, _, rfl, rfl⟩ | ⟨i, rfl, _⟩
      · simp at b3
      · simp at b3
      · omega
    refine ⟨hk, q, ?_, b4⟩
    obtain ⟨k', rfl⟩ : ∃ k', k = k' + 1 := ⟨k - 1, by omega⟩
    rw [List.getElem?_cons_succ, List.getElem?_append_right (by omega)] at b1
    exact List.mem_of_getElem? b1
  have fpq : ∀ b, b ∈ fpN → ∃ q ∈ gh, (∃ lq oq, r[q]? = some lq ∧ m[q]? = some oq ∧ oq.own = true ∧ b = lq.blk) ∨ b ∈ F q := by
    intro b hb
    obtain ⟨k, _, hk, hb⟩ := (fpm b).1 hb
    rcases hb with ⟨lk, o, h1, h2, ho, rfl⟩ | hb
    · obtain ⟨q, o1, hq, hlq, hmq, how⟩ := was k lk o h1 h2 hk
      exact ⟨q, hq, .inl ⟨lk, o1, hlq, hmq, how ho, rfl⟩⟩
    · obtain ⟨_, q, hq, hb⟩ := F2q k b hb
      exact ⟨q, hq, .inr hb⟩
  have hideN : HideIs n Q ls l fpN W h H rH F2 := by
    refine ⟨hQ, hlsn, hrH, hown, fun k lk o h1 h2 hk => ?_, fun k lk o h1 h2 hk ho => ?_, fun k k' l1 l2 o o' h1 h1' h2 h2' hne ho ho' => hstR.sep k k' l1 l2 o o' h1 h1' h2 h2' hne ho (.inl ho'), fun k lk o h1 h2 => hF2.is k lk o h1 h2, fun k b hb => ?_, fun k b hb k' l1 o h1 h2 ho => hF2.far k b hb k' l1 o h1 h2 (.inl ho), hF2.apart⟩
    · have hO := hstR.obj k lk o h1 h2
      refine ⟨hO.there, hO.fits, fun ho => ?_, hO.lt, hO.ext⟩
      rcases hk with rfl | hk
      · simp at h1; exact .inl (by rw [h1])
      · exact .inr ((fpm _).2 ⟨k, (List.getElem?_eq_some_iff.1 h1).1, hk, .inl ⟨lk, o, h1, h2, ho, rfl⟩⟩)
    · exact (fpm _).2 ⟨k, (List.getElem?_eq_some_iff.1 h1).1, hk, .inl ⟨lk, o, h1, h2, ho, rfl⟩⟩
    · obtain ⟨hk, _⟩ := F2q k b hb
      obtain ⟨q, o, b1, b2, _⟩ := hF2d k b hb
      refine ⟨hk, (fpm b).2 ⟨k, ?_, hk, .inr hb⟩⟩
      have := (List.getElem?_eq_some_iff.1 b2).1
      rw [← hstR.len] at this
      exact this
  have get' : ∀ (k : Nat) (o : SObj), ((Sz.killL m gh).set j (absO (hide n Q) refs))[k]? = some o → (k = j ∧ o = absO (hide n Q) refs) ∨ (k ≠ j ∧ k ∈ gh ∧ o = ⟨false, []⟩) ∨ (k ≠ j ∧ k ∉ gh ∧ m[k]? = some o) := by
    intro k o hk
    rw [List.getElem?_set] at hk
    by_cases e : j = k
    · subst e
      simp [killL_len, hj] at hk
      exact .inl ⟨rfl, hk.symm⟩
    · rw [if_neg e] at hk
      by_cases hg : k ∈ gh
      · rcases killL_get hk with hk | ⟨hk, _⟩
        · exact .inr (.inl ⟨Ne.symm e, hg, hk⟩)
        · exact (hk hg).elim
      · rw [killL_not hg] at hk
        exact .inr (.inr ⟨Ne.symm e, hg, hk⟩)
  classical
  refine ⟨hst.low, hst.from_, hst.inp, by simp [killL_len, hlen], fun k lk o h1 h2 => ?_, fun k k' l1 l2 o o' h1 h1' h2 h2' hne ho hal => ?_, fun k => if k = j then fpN else if k ∈ gh then [] else F k, fun k lk o h1 h2 => ?_, fun k b hb => ?_, fun k b hb k' lk o h1 h2 hal => ?_, fun k k' b hb hb' => ?_⟩
  · rcases get' k o h2 with ⟨rfl, rfl⟩ | ⟨hk, hg, rfl⟩ | ⟨hk, hg, h3⟩
    · rw [hl] at h1; injection h1 with h1; subst h1
      have hO := hstR.obj 0 l _ rfl hidM_0
      refine ⟨fun _ _ => ?_, Nat.zero_le _, fun _ => hO.own rfl, hO.lt, rfl⟩
      obtain ⟨c, T, fr, g1, g2, g3, g4⟩ := hO.there rfl (.inl rfl)
      exact ⟨c, T, fr, g1, g2, by simp [absO, SV.IsL], fun _ => g4 rfl⟩
    · exact .dead (hst.locs lk (List.mem_of_getElem? h1))
    · exact hst.obj k lk o h1 h3
  · have old : ∀ (k : Nat) (o : SObj), ((Sz.killL m gh).set j (absO (hide n Q) refs))[k]? = some o → (o.own = true ∨ o.cells ≠ []) → ∃ o0, m[k]? = some o0 ∧ (o.own = true → o0.own = true) ∧ (o0.own = true ∨ o0.cells ≠ []) := by
      intro k o hk hal
      rcases get' k o hk with ⟨rfl, rfl⟩ | ⟨_, _, rfl⟩ | ⟨_, _, h3⟩
      · exact ⟨q0, hj1, fun _ => how0, .inl how0⟩
      · simp at hal
      · exact ⟨o, h3, id, hal⟩
    obtain ⟨o1, a1, a2, a3⟩ := old k o h2 (.inl ho)
    obtain ⟨o2, b1, b2, b3⟩ := old k' o' h2' hal
    exact hst.sep k k' l1 l2 o1 o2 h1 h1' a1 b1 hne (a2 ho) b3
  · rcases get' k o h2 with ⟨rfl, rfl⟩ | ⟨hk, hg, rfl⟩ | ⟨hk, hg, h3⟩
    · rw [hl] at h1; injection h1 with h1; subst h1
      simp only [if_true]
      rw [absO_hid]
      exact ⟨ls, hls, h, H, rH, _, hideN⟩
    · exact HidIs.not rfl
    · simp only [if_neg hk, if_neg hg]
      exact hF.is k lk o h1 h3
  · split at hb
    · obtain ⟨q, hq, hb⟩ := fpq b hb
      rcases hb with ⟨lq, oq, a1, a2, a3, rfl⟩ | hb
      · exact ⟨(hst.obj q lq oq a1 a2).own a3, (hst.obj q lq oq a1 a2).lt⟩
      · exact hF.base q b hb
    · split at hb
      · simp at hb
      · exact hF.base k b hb
  · split at hb
    · rename_i hkj
      subst hkj
      obtain ⟨q, hq, hb⟩ := fpq b hb
      have hqj : q ≠ k := fun e => njg (e ▸ hq)
      rcases get' k' o h2 with ⟨rfl, rfl⟩ | ⟨hk', hg', rfl⟩ | ⟨hk', hg', h3⟩
      · rw [hl] at h1; injection h1 with h1; subst h1
        rcases hb with ⟨lq, oq, a1, a2, a3, rfl⟩ | hb
        · exact fun e => hst.sep q k' lq l oq q0 a1 hl a2 hj1 hqj a3 (.inl how0) e.symm
        · exact hF.far q b hb k' l q0 hl hj1 (.inl how0)
      · simp at hal
      · rcases hb with ⟨lq, oq, a1, a2, a3, rfl⟩ | hb
        · exact fun e => hst.sep q k' lq lk oq o a1 h1 a2 h3 (fun e => hg' (e ▸ hq)) a3 hal e.symm
        · exact hF.far q b hb k' lk o h1 h3 hal
    · split at hb
      · simp at hb
      · rename_i hkj hkg
        rcases get' k' o h2 with ⟨rfl, rfl⟩ | ⟨hk', hg', rfl⟩ | ⟨hk', hg', h3⟩
        · rw [hl] at h1; injection h1 with h1; subst h1
          exact hF.far k b hb k' l q0 hl hj1 (.inl how0)
        · simp at hal
        · exact hF.far k b hb k' lk o h1 h3 hal
  · have key : ∀ (k b : Nat), b ∈ fpN → k ∉ gh → b ∈ F k → False := by
      intro k b hb hg hb'
      obtain ⟨q, hq, hb⟩ := fpq b hb
      rcases hb with ⟨lq, oq, a1, a2, a3, rfl⟩ | hb
      · exact hF.far k _ hb' q lq oq a1 a2 (.inl a3) rfl
      · exact hg (hF.apart q k b hb hb' ▸ hq)
    split at hb
    · rename_i hk
      split at hb'
      · rename_i hk'; rw [hk, hk']
      · split at hb'
        · simp at hb'
        · rename_i hk' hg'
          exact (key k' b hb hg' hb').elim
    · split at hb
      · simp at hb
      · rename_i hk hg
        split at hb'
        · exact (key k b hb' hg hb).elim
        · split at hb'
          · simp at hb'
          · exact hF.apart k k' b hb hb'
end
/-- All that stands in a world, but for one block; the walk's first object keeps its number. -/
@[reducible] def inpBut (W : World) (b : Nat) : Inp := ⟨fun a => if a.block = b then none else W.cell? a, 1⟩
section
variable {base : Nat → Prop} {w0 W W1 : World} {r : List Loc} {m : Mem} {j : Nat} {l : Loc} {ob : SObj}
theorem St.one [Inp] (hst : St base w0 r m W) (hl : r[j]? = some l) (hob : m[j]? = some ob) (hown : ob.own = true) (hm : ob.isM = false) (hp : plainL ob.cells = true) : @St (inpBut W l.blk) (fun k => W.heap.size ≤ k ∨ k = l.blk) W [l] [⟨true, ob.cells⟩] W := by
  have hO := hst.obj j l ob hl hob
  refine @St.mk (inpBut W l.blk) _ _ _ _ _ (Low.refl _ _) (fun _ h => .inl h) (fun a u h => ?_) rfl (fun k l' o q1 q2 => ?_) (fun k k' l1 l2 o o' q1 q2 q3 q4 hne _ _ => ?_) ⟨fun _ => [], fun k l' o q1 q2 => ?_, by simp, by simp, by simp⟩
  · have h' : (if a.block = l.blk then none else W.cell? a) = some u := h
    split at h'
    · cases h'
    · rename_i hb
      have := cell_lt h'
      exact ⟨fun hh => by rcases hh with hh | hh <;> omega, h'⟩
  · match k, q1, q2 with
    | 0, q1, q2 =>
      simp at q1 q2
      subst q1; subst q2
      refine ⟨fun _ _ => ?_, hO.fits, fun _ => .inr rfl, hO.lt, trivial⟩
      obtain ⟨c, T, fr, g1, g2, g3, g4⟩ := hO.there hm (.inl hown)
      exact ⟨c, T, fr, g1, g2, plainL_is hp g3, fun _ => g4 hown⟩
    | k + 1, q1, q2 => simp at q1
  · have h1 := (List.getElem?_eq_some_iff.1 q1).1
    have h2 := (List.getElem?_eq_some_iff.1 q2).1
    simp at h1 h2
    omega
  · match k, q1, q2 with
    | 0, q1, q2 => simp at q2; subst q2; trivial
    | k + 1, q1, q2 => simp at q1
theorem St.back (I J : Inp) (hst : @St I base w0 r m W) (hl : r[j]? = some l) (hob : m[j]? = some ob) (hown : ob.own = true) {r' : List Loc} {m' : Mem} {c' : List SV}
    (h2 : @St J (fun k => W.heap.size ≤ k ∨ k = l.blk) W r' m' W1) (hr : r'[0]? = some l) (hm : m'[0]? = some ⟨true, c'⟩) (hp : plainL c' = true) : @St I base w0 r (m.set j ⟨true, c'⟩) W1 := by
  have hbase : base l.blk := (@St.obj I _ _ _ _ _ hst j l ob hl hob).own hown
  have hlow2 := @St.low J _ _ _ _ _ h2
  have hlow : Low base W W1 := ⟨hlow2.os, hlow2.tape, hlow2.output, hlow2.size, fun k hk hb => hlow2.block k hk (fun hh => by
    rcases hh with hh | hh
    · omega
    · exact hb (hh ▸ hbase)), hlow2.shape⟩
  have hO := @St.obj J _ _ _ _ _ h2 0 l _ hr hm
  refine @St.wr _ _ _ _ _ I hst _ _ _ _ hl hob hown hlow (fun k hk hne => hlow2.block k hk fun hh => by
    rcases hh with hh | hh
    · omega
    · exact hne hh) _ ⟨fun h1 h3 => ?_, hO.fits, fun _ => hbase, hO.lt, trivial⟩ rfl
  obtain ⟨c, T, fr, g1, g2, g3, g4⟩ := hO.there h1 h3
  exact ⟨c, T, fr, g1, g2, plainL_is hp g3, g4⟩
theorem knows_but {I : Inp} (hst : St base w0 r m W) (hl : r[j]? = some l) (hob : m[j]? = some ob) (hown : ob.own = true) {s : SV} {u : Value} (hs : s.Is r u) : Knows I (inpBut W l.blk) (m.set j ⟨false, []⟩) s u := by
  have hst' := hst.kill1 j
  refine ⟨fun x hx => by subst hx; simpa only [SV.Is] using hs, fun ys hx => ?_, fun z n ys hsl => ?_⟩
  · subst hx
    simp only [SV.Is] at hs
    obtain ⟨us, rfl, hus⟩ := hs
    rw [isL_v_inv hus]
  · obtain ⟨p, c, us, rfl, hus, hlen, hcell⟩ := sl_cells hst' hsl hs
    have hxl := slOf_len hsl
    obtain rfl := isL_v_inv hus
    refine ⟨p, c, rfl, inpL_of (I := inpBut W l.blk) (by simpa using hxl) fun hne => ?_⟩
    rcases hcell with ⟨a, rfl, hc⟩ | ⟨_, h0⟩
    · have hc := hc W (Same.refl _ _)
      obtain ⟨x, hx⟩ : ∃ x, us[0]? = some x := by
        cases us with
        | nil => exact (hne rfl).elim
        | cons x _ => exact ⟨x, rfl⟩
      have h0 := hc 0 x hx
      rw [add_zero_addr] at h0
      have hap : a.block ≠ l.blk := by
        unfold slOf at hsl
        split at hsl
        · rename_i kk o n1 sz
          simp only [SV.Is] at hs
          obtain ⟨lk, cap, hlk, _, _, hu⟩ := hs
          injection hu with hu; injection hu with hu
          subst hu
          split at hsl
          · split at hsl
            · rename_i ob' hob'
              split at hsl
              · injection hsl with hsl; injection hsl with h1 h2
                have hcn : ob'.cells ≠ [] := by
                  intro he
                  rw [he] at h2
                  simp at h2
                  exact hne h2
                rw [List.getElem?_set] at hob'
                by_cases e : j = kk
                · subst e
                  simp at hob'
                  obtain ⟨_, rfl⟩ := hob'
                  exact (hcn rfl).elim
                · rw [if_neg e] at hob'
                  exact fun e2 => hst.sep j kk l lk ob ob' hl hlk hob hob' e hown (.inr hcn) e2.symm
              · cases hsl
            · cases hsl
          · cases hsl
        · rename_i p n1 c1
          obtain ⟨vs, h1, h2⟩ := Option.map_eq_some_iff.1 hsl
          injection h2 with h2 h3
          simp only [SV.Is] at hs
          injection hs with e1 e2 e3
          subst e1
          obtain ⟨hlen2, hat⟩ := inpL_some h1
          have hk : n1 * z ≠ 0 := by
            intro h0
            rw [h0] at hlen2
            rw [List.length_eq_zero_iff.1 hlen2] at h3
            exact hne (by simpa using h3.symm)
          obtain ⟨a', ha', _, hat⟩ := hat hk
          injection ha' with ha'
          subst ha'
          obtain ⟨y, hy⟩ : ∃ y, vs[0]? = some y := by
            cases vs with
            | nil => simp at hlen2; omega
            | cons y _ => exact ⟨y, rfl⟩
          have := hat 0 y hy
          rw [add_zero_addr] at this
          exact fun e => (hst.inp _ _ this).1 (e ▸ (hst.obj j l ob hl hob).own hown)
        · injection hsl with hsl; injection hsl with h1 h2
          exact (hne (by simpa using h2.symm)).elim
        · injection hsl with hsl; injection hsl with h1 h2
          exact (hne (by simpa using h2.symm)).elim
        · cases hsl
      refine ⟨a, rfl, World.cell?_spot h0, fun i u hi => ?_⟩
      show (if (a.add i).block = l.blk then none else W.cell? (a.add i)) = some u
      have e : (a.add i).block = a.block := by unfold Addr.add; split <;> rfl
      rw [if_neg (by rw [e]; exact hap)]
      exact hc i u hi
    · exact (hne h0).elim
theorem knowsL_but {I : Inp} (hst : St base w0 r m W) (hl : r[j]? = some l) (hob : m[j]? = some ob) (hown : ob.own = true) : ∀ {ss : List SV} {us : List Value}, SV.IsL r ss us → KnowsL I (inpBut W l.blk) (m.set j ⟨false, []⟩) ss us
  | [], us, h => by simpa only [SV.IsL, KnowsL] using h
  | s :: ss, us, h => by
    simp only [SV.IsL] at h
    obtain ⟨u, t, rfl, h1, h2⟩ := h
    exact ⟨u, t, rfl, knows_but hst hl hob hown h1, knowsL_but hst hl hob hown h2⟩
end
theorem keep1 [I : Inp] {g : List Nat} (h : I.keep = 1) (h0 : g[0]? = some 0) : KeepOk g := fun k hk => by
  rw [h] at hk
  obtain rfl : k = 0 := by omega
  exact h0
section
variable {P : Program} {f : FuncId} {eff : List FuncId} {N : Nat} {x : XC} {rs : List XR}
/-- A method: it reads and writes the object that its first argument leads to (plain cells), reads what the others lead to, and gives a plain value. -/
theorem Contract.meth [I : Inp] (hF : FnX P f eff N x rs) {G : Inp → List CEntry} (hG : ∀ J, @GOk J P (G J)) (tr : Trans)
    (body : ∀ args m k, tr args m k → ∃ (j o : Nat) (us : List SV) (cs : List SV), args = .ptr j o :: us ∧ m[j]? = some ⟨true, cs⟩ ∧ plainL cs = true ∧ us.length + 1 ≤ N ∧
      ∀ (J : Inp), J.keep = 1 → ∀ (vs : List Value), KnowsL I J (m.set j ⟨false, []⟩) us vs → @evX J P N eff (G J) x (slots (argSlots 0 (.ptr 0 o :: vs.map SV.of))) [⟨true, cs⟩]
        (fun ex e m' => EndsX ex ∧ evR rs e m' fun s => s.plain = true ∧ ∃ c', m'[0]? = some ⟨true, c'⟩ ∧ plainL c' = true ∧ k s (m.set j ⟨true, c'⟩))) : Contract P f false tr := by
  refine ⟨hF.enter, fun args m k base w0 W r vs ht hst ha => ?_⟩
  obtain ⟨j, o, us, cs, rfl, hob, hp, hlen, hev⟩ := body args m k ht
  obtain ⟨l, vs, hl, rfl, ha2⟩ := ptr_inv0 ha
  have hk := knowsL_but (I := I) hst hl hob rfl ha2
  have hvl := IsL_len ha2
  have hargs : @SV.IsL [l] (.ptr 0 o :: vs.map SV.of) (.pointer (some ⟨l.blk, l.off + o, none⟩) :: vs) := by
    simp only [SV.IsL, SV.Is]
    exact ⟨_, _, rfl, ⟨l, rfl, rfl⟩, isL_of vs⟩
  refine (@FnX.calls P f eff N x rs (G (inpBut W l.blk)) (inpBut W l.blk) hF (hG _) _ _ _ _ _ _ _ (hst.one hl hob rfl rfl hp) hargs (by simp; omega) (fun s m' => s.plain = true ∧ ∃ c', m'[0]? = some ⟨true, c'⟩ ∧ plainL c' = true ∧ k s (m.set j ⟨true, c'⟩)) (hev (inpBut W l.blk) rfl vs hk)).mono ?_
  rintro e W1 ⟨s, m', r', u, ⟨hs1, c', hm', hp', hk⟩, rfl, hst1, hs, hkp⟩
  have hr : r'[0]? = some l := hkp 0 l (Nat.lt_succ_self 0) rfl
  exact ⟨s, _, [], u, hk, rfl, by simpa using St.back I (inpBut W l.blk) hst hl hob rfl hst1 hr hm' hp', plain_is hs1 hs, fun h => by cases h⟩
end
end Go.Proofs.Ytibefgdjijmncaa.Sz
end
section
namespace Go.Proofs.Ytibefgdjijmncaa.Sz
open Go.RowKit
/-- Whatever has this memory and value has the other ones, the first objects in their places. -/
def Turn [Inp] (d : Nat) (m : Mem) (s : SV) (m2 : Mem) (s2 : SV) : Prop :=
  ∀ (base : Nat → Prop) (w0 W : World) (r : List Loc) (u : Value), St base w0 r m W → s.Is r u → ∃ r2, St base w0 r2 m2 W ∧ s2.Is r2 u ∧ ∀ k, k < d → ∀ l, r[k]? = some l → r2[k]? = some l
theorem Turn.refl [Inp] {d : Nat} {m : Mem} {s : SV} : Turn d m s m s := fun base w0 W r u h1 h2 => ⟨r, h1, h2, fun _ _ _ h => h⟩
theorem Turn.trans [Inp] {d : Nat} {m m2 m3 : Mem} {s s2 s3 : SV} (h : Turn d m s m2 s2) (h2 : Turn d m2 s2 m3 s3) : Turn d m s m3 s3 := fun base w0 W r u q1 q2 => by
  obtain ⟨r2, a1, a2, a3⟩ := h base w0 W r u q1 q2
  obtain ⟨r3, b1, b2, b3⟩ := h2 base w0 W r2 u a1 a2
  exact ⟨r3, b1, b2, fun k hk l hl => b3 k hk l (a3 k hk l hl)⟩
theorem Turn.fit [Inp] {d : Nat} {m m2 : Mem} {s s2 : SV} (g : List Nat) (hn : NdL g m2) (hm : FitM g m g m2) (hs : Le g s2 s) (hk : ∀ k, k < d → g[k]? = some k) : Turn d m s m2 s2 := fun base w0 W r u q1 q2 => by
  obtain ⟨a1, a2, _⟩ := fit_sound' (N := 0) (e := fun _ => .any) (l := []) (ts := #[]) hn hm q1
  exact ⟨_, a1, hs.is a2 q2, fun k h l hl => a2 k k (hk k h) l hl⟩
theorem Turn.seal [Inp] {d : Nat} {m : Mem} {s : SV} {j n : Nat} {refs gh : List Nat} {h : List SV} {H : Mem} {Q : List SV → Mem → Prop} (hrn : refs.length = n) (hnd : (j :: (refs ++ gh)).Nodup) (hfm : FitM (j :: (refs ++ gh)) m (j :: (refs ++ gh)) (hidM n h H)) (hQ : Q h H) (hown : ∀ o ∈ H, o.own = true ∨ o.cells = []) :
    Turn d m s ((Sz.killL m gh).set j (absO (hide n Q) refs)) s := fun base w0 W r u q1 q2 => ⟨r, q1.seal hrn hnd hfm hQ hown, q2, fun _ _ _ h => h⟩
section
variable {P : Program} {f : FuncId} {eff : List FuncId} {N : Nat} {x : XC} {rs : List XR}
/-- A function that reads, and gives new objects, what comes of it turned. -/
theorem Contract.readT [I : Inp] (hF : FnX P f eff N x rs) {G : Inp → List CEntry} (hG : ∀ J, @GOk J P (G J)) (tr : Trans)
    (body : ∀ args m k, tr args m k → args.length ≤ N ∧ ∀ (J : Inp), J.keep = 0 → ∀ (us : List Value), KnowsL I J m args us → @evX J P N eff (G J) x (slots (argSlots 0 (us.map SV.of))) [] (fun ex e m' => EndsX ex ∧ evR rs e m' fun s => ∃ (m2 : Mem) (s2 : SV), @Turn J 0 m' s m2 s2 ∧ (∀ o ∈ m2, o.own = true) ∧ k (s2.up m.length) (m ++ m2.map (SObj.up m.length)))) : Contract P f true tr := by
  refine ⟨hF.enter, fun args m k base w0 W r vs ht hst ha => ?_⟩
  obtain ⟨hlen, hev⟩ := body args m k ht
  have hk := knowsL_of hst ha
  have hvl := IsL_len ha
  refine (@FnX.calls P f eff N x rs (G (inpOf W)) (inpOf W) hF (hG (inpOf W)) _ _ _ _ _ _ _ (St.inpOf W) (isL_of vs) (by simp; omega) (fun s m' => ∃ (m2 : Mem) (s2 : SV), @Turn (inpOf W) 0 m' s m2 s2 ∧ (∀ o ∈ m2, o.own = true) ∧ k (s2.up m.length) (m ++ m2.map (SObj.up m.length))) (hev (inpOf W) rfl vs hk)).mono ?_
  rintro e W1 ⟨s, m', r', u, ⟨m2, s2, hT, hown, hk⟩, rfl, hst1, hs, _⟩
  have hb : Below W.heap.size W W1 := (@St.low (inpOf W) _ _ _ _ _ hst1).below
  obtain ⟨r2, hst2, hs2, _⟩ := hT _ _ _ r' u hst1 hs
  have hj := St.join2 I (inpOf W) hst hst2 hown
  rw [← hst.len] at hk
  exact ⟨_, _, r2, u, hk, rfl, hj, up_is hs2, fun _ => Same.below hst hb⟩
end
end Go.Proofs.Ytibefgdjijmncaa.Sz
end
section
namespace Go.Proofs.Ytibefgdjijmncaa.Sz
open Go.RowKit
theorem CORE : (type_of% @Int.cast_ofNat_Int) ∧ (type_of% @Nat.mul_one) ∧ (type_of% @decide_true) ∧ (type_of% @decide_false) ∧ (type_of% @List.map_cons.{0, 0}) ∧ (type_of% @List.map_nil.{0, 0}) ∧ (type_of% @List.length_cons.{0}) ∧ (type_of% @List.length_nil.{0}) ∧ (type_of% @List.cons_append.{0}) ∧ (type_of% @List.nil_append.{0}) ∧ (type_of% @List.getElem?_cons_zero.{0}) ∧ (type_of% @List.getElem?_cons_succ.{0}) ∧ (type_of% @List.getElem?_nil.{0}) ∧ (type_of% @List.take_succ_cons.{0}) ∧ (type_of% @List.take_zero.{0}) ∧ (type_of% @List.drop_succ_cons.{0}) ∧ (type_of% @List.drop_zero.{0}) ∧ (type_of% @List.all_cons.{0}) ∧ (type_of% @List.all_nil.{0}) ∧ (type_of% @List.set_cons_zero.{0}) ∧ (type_of% @List.set_cons_succ.{0}) ∧ (type_of% @List.append_nil.{0}) ∧ (type_of% @Option.map_some.{0, 0}) ∧ (type_of% @Option.map_none.{0, 0}) ∧ (type_of% @cond_true.{1}) ∧ (type_of% @cond_false.{1}) ∧ (type_of% @Bool.true_eq_false) ∧ (type_of% @Bool.false_eq_true) ∧ (type_of% @Bool.not_true) ∧ (type_of% @Bool.not_false) ∧ (type_of% @true_and) ∧ (type_of% @and_true) ∧ (type_of% @Nat.zero_add) ∧ (type_of% @Nat.add_zero) ∧ (type_of% @Nat.zero_mul) ∧ (type_of% @Nat.le_refl) ∧ (type_of% @Int.toNat_natCast) ∧ (type_of% @Bool.and_self) ∧ (type_of% @Bool.true_and) ∧ (type_of% @Bool.and_true) ∧ (type_of% @and_self) ∧ (type_of% @of_int) ∧ (type_of% @of_bool) ∧ (type_of% @of_str) ∧ (type_of% @of_sl) ∧ (type_of% @of_p) ∧ (type_of% @of_agg) :=
  ⟨@Int.cast_ofNat_Int, @Nat.mul_one, @decide_true, @decide_false, @List.map_cons, @List.map_nil, @List.length_cons, @List.length_nil, @List.cons_append, @List.nil_append, @List.getElem?_cons_zero, @List.getElem?_cons_succ, @List.getElem?_nil, @List.take_succ_cons, @List.take_zero, @List.drop_succ_cons, @List.drop_zero, @List.all_cons, @List.all_nil, @List.set_cons_zero, @List.set_cons_succ, @List.append_nil, @Option.map_some, @Option.map_none, @cond_true, @cond_false, @Bool.true_eq_false, @Bool.false_eq_true, @Bool.not_true, @Bool.not_false, @true_and, @and_true, @Nat.zero_add, @Nat.add_zero, @Nat.zero_mul, @Nat.le_refl, @Int.toNat_natCast, @Bool.and_self, @Bool.true_and, @Bool.and_true, @and_self, @of_int, @of_bool, @of_str, @of_sl, @of_p, @of_agg⟩
end Go.Proofs.Ytibefgdjijmncaa.Sz
end
section
namespace Go.Proofs.Ytibefgdjijmncaa.Sz
open Go.RowKit
variable {P : Program} {f : FuncId} {fn : Func}
/-- What the runner is told of a function, as what a walk is told. -/
def trOf (g : List SV → Mem → Option (List (SV × Mem))) : Trans := fun args m k => match g args m with | some L => ∀ o ∈ L, k o.1 o.2 | none => False
theorem setCell_row {W : World} {b i : Nat} {c : Array Value} {T : TypeId} {fr : Nat × Nat} (h : W.heap[b]? = some (.cells c T fr)) (u : Value) : W.setCell ⟨b, i, none⟩ u = W.setRow b (c.setIfInBounds i u) := by
  unfold World.setCell World.setRow
  congr 1
  apply Array.ext
  · simp
  · intro k h1 h2
    simp only [Array.getElem_modify]
    split
    · rename_i e
      subst e
      have : W.heap[b]? = some (W.heap[b]'(by simpa using h1)) := by simp
      rw [h] at this
      injection this with this
      rw [← this]
      simp
    · rfl
section
variable [Inp] {base : Nat → Prop} {w0 W : World} {r : List Loc} {m : Mem}
/-- A cell of an object. -/
theorem St.cellAt (hst : St base w0 r m W) {j o : Nat} {ob : SObj} {s : SV} (hob : m[j]? = some ob) (hs : ob.cells[o]? = some s) : ∃ l u, r[j]? = some l ∧ W.cell? ⟨l.blk, l.off + o, none⟩ = some u ∧ s.Is r u := by
  have hj : j < r.length := by rw [hst.len]; exact (List.getElem?_eq_some_iff.1 hob).1
  have hO := hst.obj j _ ob (List.getElem?_eq_getElem hj) hob
  have hne : ob.cells ≠ [] := fun e => by rw [e] at hs; simp at hs
  obtain ⟨c, T, fr, g1, g2, g3, g4⟩ := hO.there (notM hO hne) (.inr hne)
  obtain ⟨u, hu, hsu⟩ := IsL_get g3 hs
  refine ⟨_, u, List.getElem?_eq_getElem hj, ?_, hsu⟩
  rw [List.getElem?_take] at hu
  split at hu
  · rw [List.getElem?_drop] at hu
    rw [cell_of_row W _ _ c T fr g1]
    simpa using hu
  · cases hu
/-- A cell of an object of the walk's own is written. -/
theorem St.setAt (hst : St base w0 r m W) {j o : Nat} {ob : SObj} {l : Loc} {s' : SV} {u : Value} (hl : r[j]? = some l) (hob : m[j]? = some ob) (hown : ob.own = true) (ho : o < ob.cells.length) (hs : s'.Is r u) :
    W.frozen? ⟨l.blk, l.off + o, none⟩ = false ∧ St base w0 r (m.set j ⟨true, ob.cells.set o s'⟩) (W.setCell ⟨l.blk, l.off + o, none⟩ u) := by
  have hO := hst.obj j l ob hl hob
  have hne : ob.cells ≠ [] := fun e => by rw [e] at ho; simp at ho
  obtain ⟨c, T, fr, g1, g2, g3, g4⟩ := hO.there (notM hO hne) (.inr hne)
  have g5 := hO.fits
  have := g4 hown
  subst this
  refine ⟨by simp [World.frozen?, g1], ?_⟩
  rw [setCell_row g1]
  refine hst.put hl hob hown g1 _ (by simp) _ (hO.put hown g1 g2 (by simp) (by simpa using hO.fits) ?_)
  have e : ((c.setIfInBounds (l.off + o) u).toList.drop l.off).take (ob.cells.set o s').length = ((c.toList.drop l.off).take ob.cells.length).set o u := by
    rw [List.length_set, Array.toList_setIfInBounds]
    apply List.ext_getElem?
    intro i
    simp only [List.getElem?_take, List.getElem?_drop, List.getElem?_set, List.length_take, List.length_drop, Array.length_toList]
    have hc : l.off + l.room ≤ c.size := g2
    by_cases h1 : i < ob.cells.length
    · by_cases h2 : o = i
      · subst h2
        simp only [if_pos h1, if_true]
        rw [if_pos (by omega), if_pos (by omega)]
      · rw [if_pos h1, if_neg (by omega), if_neg h2, if_pos h1]
    · rw [if_neg h1]
      by_cases h2 : o = i
      · omega
      · rw [if_neg h2, if_neg h1]
  show SV.IsL r (ob.cells.set o s') (((c.setIfInBounds (l.off + o) u).toList.drop l.off).take (ob.cells.set o s').length)
  rw [e]
  exact IsL_set o g3 hs
end
theorem ptr_inv [Inp] {r : List Loc} {j o : Nat} {vs : List Value} {l : List SV} (h : SV.IsL r (.ptr j o :: l) vs) : ∃ lc t, r[j]? = some lc ∧ vs = .pointer (some ⟨lc.blk, lc.off + o, none⟩) :: t ∧ SV.IsL r l t := by
  simp only [SV.IsL, SV.Is] at h
  obtain ⟨u, t, rfl, ⟨lc, hl, rfl⟩, ht⟩ := h
  exact ⟨lc, t, hl, rfl, ht⟩
theorem int_inv {r : List Loc} {x : Value} {vs : List Value} {l : List SV} (h : SV.IsL r (.v x :: l) vs) : ∃ t, vs = x :: t ∧ SV.IsL r l t := by
  simp only [SV.IsL, SV.Is] at h
  obtain ⟨u, t, rfl, rfl, ht⟩ := h
  exact ⟨t, rfl, ht⟩
theorem nil_inv {r : List Loc} {vs : List Value} (h : SV.IsL r [] vs) : vs = [] := by simpa only [SV.IsL] using h
def cellI (m : Mem) (j o : Nat) (k : IntKind) : Option Int := match m[j]? with
  | some ob => (match ob.cells[o]? with | some (.v (.int k' x)) => if k' = k then some x else none | _ => none)
  | none => none
theorem cellI_ok {m : Mem} {j o : Nat} {k : IntKind} {x : Int} (h : cellI m j o k = some x) : ∃ ob, m[j]? = some ob ∧ ob.cells[o]? = some (.v (.int k x)) := by
  unfold cellI at h
  split at h
  · rename_i ob hob
    split at h
    · rename_i k' x' hc
      split at h
      · rename_i e
        injection h with h; subst h; subst e
        exact ⟨ob, hob, hc⟩
      · cases h
    · cases h
  · cases h
def gLoad (k : IntKind) : List SV → Mem → Option (List (SV × Mem)) := fun args m => match args with
  | [.ptr j o] => (match cellI m j o k with | some x => some [(.v (.int k x), m)] | none => none)
  | _ => none
theorem ext_load [Inp] (hf : P.funcs[f]? = some fn) (hname : (fn.name == "runtime.NumGoroutine") = false) (hb : fn.body.isNone = true) (hn : Extern.findNext fn = none) (k : IntKind)
    (he : Extern.find fn = some (Extern.Atomic.loadT (.int k))) : ExtC P f true (trOf (gLoad k)) := by
  refine ⟨fun args m K base w0 W r vs ht hst ha => ?_⟩
  unfold trOf gLoad at ht
  split at ht
  case h_2 => exact ht.elim
  rename_i L hL
  split at hL
  case h_2 => cases hL
  rename_i j o
  split at hL
  case h_2 => cases hL
  rename_i x hx
  injection hL with hL; subst hL
  obtain ⟨ob, hob, hc⟩ := cellI_ok hx
  obtain ⟨lc, t, hl, rfl, ht2⟩ := ptr_inv ha
  obtain rfl := nil_inv ht2
  obtain ⟨l, u, hl', hcell, hu⟩ := hst.cellAt hob hc
  rw [hl] at hl'; injection hl' with hl'; subst hl'
  simp only [SV.Is] at hu
  subst hu
  exact ⟨_, m, [], _, W, ht _ (List.mem_singleton.2 rfl), run_call_load hf hname hb hn k he hcell, by simpa using hst, by simp only [SV.Is], fun _ => Same.refl _ _⟩
def setI (m : Mem) (j o : Nat) (s : SV) : Option Mem := match m[j]? with
  | some ob => bif ob.own && Nat.blt o ob.cells.length then some (m.set j ⟨true, ob.cells.set o s⟩) else none
  | none => none
theorem setI_ok {m m' : Mem} {j o : Nat} {s : SV} (h : setI m j o s = some m') : ∃ ob, m[j]? = some ob ∧ ob.own = true ∧ o < ob.cells.length ∧ m' = m.set j ⟨true, ob.cells.set o s⟩ := by
  unfold setI at h
  split at h
  · rename_i ob hob
    cases hc : ob.own && Nat.blt o ob.cells.length with
    | true =>
      simp only [hc, cond_true] at h
      injection h with h; subst h
      simp only [Bool.and_eq_true] at hc
      exact ⟨ob, hob, hc.1, by simpa [Nat.blt_eq] using hc.2, rfl⟩
    | false => simp only [hc, cond_false] at h; cases h
  · cases h
def gStore : List SV → Mem → Option (List (SV × Mem)) := fun args m => match args with
  | [.ptr j o, .v (.int k y)] => (match setI m j o (.v (.int k y)) with | some m' => some [(.tup [], m')] | none => none)
  | _ => none
theorem ext_store [Inp] (hf : P.funcs[f]? = some fn) (hname : (fn.name == "runtime.NumGoroutine") = false) (hb : fn.body.isNone = true) (hn : Extern.findNext fn = none)
    (he : Extern.find fn = some Extern.Atomic.storeT) : ExtC P f false (trOf gStore) := by
  refine ⟨fun args m K base w0 W r vs ht hst ha => ?_⟩
  unfold trOf gStore at ht
  split at ht
  case h_2 => exact ht.elim
  rename_i L hL
  split at hL
  case h_2 => cases hL
  rename_i j o k y
  split at hL
  case h_2 => cases hL
  rename_i m' hm
  injection hL with hL; subst hL
  obtain ⟨ob, hob, hown, ho, rfl⟩ := setI_ok hm
  obtain ⟨lc, t, hl, rfl, ht2⟩ := ptr_inv ha
  obtain ⟨t3, rfl, ht3⟩ := int_inv ht2
  obtain rfl := nil_inv ht3
  obtain ⟨l, u, hl', hcell, _⟩ := hst.cellAt hob (List.getElem?_eq_getElem ho)
  rw [hl] at hl'; injection hl' with hl'; subst hl'
  obtain ⟨hz, hst1⟩ := hst.setAt (s' := .v (.int k y)) (u := .int k y) hl hob hown ho (by simp only [SV.Is])
  exact ⟨_, _, [], _, _, ht _ (List.mem_singleton.2 rfl), run_call_store hf hname hb hn he hcell hz, by simpa using hst1, by simp only [SV.Is]; exact ⟨[], rfl, by simp only [SV.IsL]⟩, fun h => by cases h⟩
end Go.Proofs.Ytibefgdjijmncaa.Sz
end
section
namespace Go.Proofs.Ytibefgdjijmncaa
open Go.RowKit Sz
set_option maxRecDepth 100000
theorem e180 [Inp] : ExtC Try.prog 180 false (trOf gStore) := ext_store Try.func180 (by kernel_rfl) (by kernel_rfl) (by kernel_rfl) (by kernel_rfl)
theorem e164 [Inp] : ExtC Try.prog 164 true (trOf (gLoad .u32)) := ext_load Try.func164 (by kernel_rfl) (by kernel_rfl) (by kernel_rfl) .u32 (by kernel_rfl)
theorem n_disable (w : World) : (callFunc 182 #[]).run Try.prog w = .ok (.value (.tuple #[])) w := run_call_mark0 Try.func182 (by kernel_rfl) (by kernel_rfl) (by kernel_rfl) .disable (by kernel_rfl) w
theorem n_enable (w : World) : (callFunc 184 #[]).run Try.prog w = .ok (.value (.tuple #[])) w := run_call_mark0 Try.func184 (by kernel_rfl) (by kernel_rfl) (by kernel_rfl) .enable (by kernel_rfl) w
theorem n_acquire (a : Addr) (w : World) : (callFunc 185 #[.pointer (some a)]).run Try.prog w = .ok (.value (.tuple #[])) w := run_call_marked Try.func185 (by kernel_rfl) (by kernel_rfl) (by kernel_rfl) .acquire (by kernel_rfl) a w
theorem n_release (a : Addr) (w : World) : (callFunc 187 #[.pointer (some a)]).run Try.prog w = .ok (.value (.tuple #[])) w := run_call_marked Try.func187 (by kernel_rfl) (by kernel_rfl) (by kernel_rfl) .releaseMerge (by kernel_rfl) a w
/-- '(*sync/atomic.Bool).Store(true)', deferred. -/
theorem n_store (a : Addr) (x : Value) (u : FrameMode) (w : World) (hc : w.cell? a = some x) (hz : w.frozen? a = false) :
    CallsD Try.prog 177 #[.pointer (some a), .bool true] u w fun e u' w' => u' = u ∧ (e = .returned (.tuple #[]) ∧ w' = w.drew.setCell a (.int .u32 1)) := by
  have hc' : w.drew.cell? a = some x := by go_simp
  have hz' : w.drew.frozen? a = false := by go_simp
  have hst := run_call_store (P := Try.prog) Try.func180 (by kernel_rfl) (by kernel_rfl) (by kernel_rfl) (by kernel_rfl) (k := .u32) (y := 1) hc' hz'
  go_enter_d Try.func177, Try.ntmps177
  go_wp2
  go_region_calls
  all_goals (go_end0; exact ⟨rfl, rfl⟩)
/-- '(*sync.Mutex).Unlock', deferred, the lock held and nobody waiting. -/
theorem n_unlock (a : Addr) (u : FrameMode) (w : World) (hc : w.cell? a = some (.int .i32 1)) (hz : w.frozen? a = false) :
    CallsD Try.prog 176 #[.pointer (some a)] u w fun e u' w' => u' = u ∧ (e = .returned (.tuple #[]) ∧ w' = w.setCell a (.int .i32 0)) := by
  have hd := n_disable
  have he := n_enable
  have hr := n_release
  have hadd := run_call_add (P := Try.prog) Try.func188 (by kernel_rfl) (by kernel_rfl) (by kernel_rfl) .i32 (by kernel_rfl) (y := -1) (s := 0) hc hz (by simp [go_sem]; rfl)
  have hcv := run_convert_to_unsafe (P := Try.prog) (src := 252) (dst := 256) Try.underlying252 Try.underlying256 (by kernel_rfl) hc
  go_enter_d Try.func176, Try.ntmps176
  go_wp2
  go_end0
  go_wp2
  go_end0
  exact ⟨rfl, rfl⟩
/-- '(*sync.Mutex).Lock', the lock free. -/
theorem n_lock (a : Addr) (w : World) (hc : w.cell? a = some (.int .i32 0)) (hz : w.frozen? a = false) :
    Calls Try.prog 175 #[.pointer (some a)] w fun e w' => e = .returned (.tuple #[]) ∧ w' = w.setCell a (.int .i32 1) := by
  have hd := n_disable
  have he := n_enable
  have ha := n_acquire
  have hcas := run_call_cas_hit (P := Try.prog) Try.func183 (by kernel_rfl) (by kernel_rfl) (by kernel_rfl) .i32 (by kernel_rfl) (y := 1) hc hz
  have hc' : (w.setCell a (.int .i32 1)).cell? a = some (.int .i32 1) := World.cell?_setCell_same w a _ hc
  have hcv := run_convert_to_unsafe (P := Try.prog) (src := 252) (dst := 256) Try.underlying252 Try.underlying256 (by kernel_rfl) hc'
  go_enter Try.func175, Try.ntmps175
  go_wp2
  first | go_end0 | (simp only [Exit.inBlock, Exit.then]; refine bodyPost_ret (results_none rfl _ _ _) rfl ?_) | refine bodyPost_ret (results_none rfl _ _ _) rfl ?_
  go_wp2
  go_end0
  exact ⟨rfl, rfl⟩
end Go.Proofs.Ytibefgdjijmncaa
end
section
namespace Go.Proofs.Ytibefgdjijmncaa
open Go.RowKit Sz
set_option maxRecDepth 100000
set_option maxHeartbeats 1600000
theorem n_slow (b off : Nat) (w : World) (R : World → Prop)
    (h0 : w.cell? ⟨b, off, none⟩ = some (.int .u32 0)) (h1 : w.cell? ⟨b, off + 1, none⟩ = some (.int .i32 0)) (f1 : w.frozen? ⟨b, off + 1, none⟩ = false)
    (hcall : Calls Try.prog 172 #[.pointer (some ⟨b, off, none⟩)] (w.setCell ⟨b, off + 1, none⟩ (.int .i32 1)) fun e w2 => (∃ u, e = .returned u) ∧ R w2)
    (hR : ∀ w2, R w2 → (∃ x, w2.cell? ⟨b, off, none⟩ = some x) ∧ w2.cell? ⟨b, off + 1, none⟩ = some (.int .i32 1) ∧ w2.frozen? ⟨b, off, none⟩ = false ∧ w2.frozen? ⟨b, off + 1, none⟩ = false) :
    Calls Try.prog 174 #[.pointer (some ⟨b, off, none⟩), .func (.func 172) #[.pointer (some ⟨b, off, none⟩)] #[]] w fun e w' => e = .returned (.tuple #[]) ∧
      ∃ w2, R w2 ∧ w' = (w2.drew.setCell ⟨b, off, none⟩ (.int .u32 1)).setCell ⟨b, off + 1, none⟩ (.int .i32 0) := by
  have hl := run_call_load (P := Try.prog) Try.func164 (by kernel_rfl) (by kernel_rfl) (by kernel_rfl) .u32 (by kernel_rfl) (w := w.setCell ⟨b, off + 1, none⟩ (.int .i32 1)) (a := ⟨b, off, none⟩) (x := 0) ((World.cell?_setCell_other _ ⟨b, off + 1, none⟩ ⟨b, off, none⟩ _ (by simp)).trans h0)
  have hnot : ∀ (x : Bool) (w : World), (Op.unary .not (.bool x)).run Try.prog w = .ok (.bool (!x)) w := fun _ _ => rfl
  go_enter_defers Try.func174, Try.ntmps174
  go_wp2_with (go_at_call 175; refine (n_lock ⟨b, off + 1, none⟩ _ (by go_simp) (by go_simp)).mono ?_; rintro e w' ⟨rfl, rfl⟩)
  go_wp2_with (first | (go_at_call 146; go_in) | (go_at_call 172; refine hcall.mono ?_; rintro e w2 ⟨⟨u, rfl⟩, hw2⟩))
  obtain ⟨⟨x, c0⟩, c1, z0, z1⟩ := hR w2 hw2
  refine leaves_cons (f := 177) (args := #[.pointer (some ⟨b, off, none⟩), .bool true]) (by simp) (by simp [go_sem]) ?_
  refine (n_store ⟨b, off, none⟩ x .returning _ c0 z0).mono ?_
  rintro e u' w'' ⟨rfl, rfl, rfl⟩
  refine leaves_cons (f := 176) (args := #[.pointer (some ⟨b, off + 1, none⟩)]) (by simp [settle]) (by simp [go_sem]) ?_
  refine (n_unlock ⟨b, off + 1, none⟩ _ _ ?_ (by simp [z1])).mono ?_
  · refine (World.cell?_setCell_other _ ⟨b, off, none⟩ ⟨b, off + 1, none⟩ _ (by simp)).trans ?_
    rw [World.cell?_drew]
    exact c1
  rintro e u' w'' ⟨rfl, rfl, rfl⟩
  simp [Leaves, settle, results, Try.results174]
  exact ⟨w2, hw2, rfl⟩
/-- '(*sync.Once).Do', the function not yet called. -/
theorem n_do (b off : Nat) (w : World) (R : World → Prop)
    (h0 : w.cell? ⟨b, off, none⟩ = some (.int .u32 0)) (h1 : w.cell? ⟨b, off + 1, none⟩ = some (.int .i32 0)) (f1 : w.frozen? ⟨b, off + 1, none⟩ = false)
    (hcall : Calls Try.prog 172 #[.pointer (some ⟨b, off, none⟩)] (w.setCell ⟨b, off + 1, none⟩ (.int .i32 1)) fun e w2 => (∃ u, e = .returned u) ∧ R w2)
    (hR : ∀ w2, R w2 → (∃ x, w2.cell? ⟨b, off, none⟩ = some x) ∧ w2.cell? ⟨b, off + 1, none⟩ = some (.int .i32 1) ∧ w2.frozen? ⟨b, off, none⟩ = false ∧ w2.frozen? ⟨b, off + 1, none⟩ = false) :
    Calls Try.prog 171 #[.pointer (some ⟨b, off, none⟩), .func (.func 172) #[.pointer (some ⟨b, off, none⟩)] #[]] w fun e w' => e = .returned (.tuple #[]) ∧
      ∃ w2, R w2 ∧ w' = (w2.drew.setCell ⟨b, off, none⟩ (.int .u32 1)).setCell ⟨b, off + 1, none⟩ (.int .i32 0) := by
  have hl := run_call_load (P := Try.prog) Try.func164 (by kernel_rfl) (by kernel_rfl) (by kernel_rfl) .u32 (by kernel_rfl) h0
  have hnot : ∀ (x : Bool) (w : World), (Op.unary .not (.bool x)).run Try.prog w = .ok (.bool (!x)) w := fun _ _ => rfl
  go_enter Try.func171, Try.ntmps171
  go_wp2_with (first | (go_at_call 174; refine (n_slow b off w R h0 h1 f1 hcall hR).mono ?_; rintro e w' ⟨rfl, hw⟩) | (go_at_call 146; go_in))
  go_end0
  exact ⟨rfl, hw⟩
end Go.Proofs.Ytibefgdjijmncaa
end
section
namespace Go.Proofs.Ytibefgdjijmncaa
open Go.RowKit Sz
set_option maxHeartbeats 4000000
set_option maxRecDepth 20000
-- (*almshouse/sum.table).make (1 parameters)
def x172 : XC := (.seq (.tree (.seq ⟨some 5, none, (.ofA (.mv (.cst (.v (.int .i64 0)))))⟩
  .done))
 (.block 0 (.loop (.seq (.tree (.seq ⟨some 6, none, (.ofA (.bin .lss (.tmp 5) (.cst (.v (.int .i64 256)))))⟩
  .done))
 (.seq (.cond (.tmp 6)
 .skip
 (.exit 0))
 (.seq (.block 1 (.seq (.tree (.seq ⟨some 7, none, (.ofA (.mv (.tmp 5)))⟩
  (.seq ⟨some 2, none, (.ofA (.mv (.tmp 7)))⟩
  .done)))
 (.seq (.tree (.seq ⟨some 8, none, (.ofA (.mv (.tmp 2)))⟩
  (.seq ⟨some 9, none, (.ofA (.conv .u32 (.tmp 8)))⟩
  (.seq ⟨some 3, none, (.ofA (.mv (.tmp 9)))⟩
  .done))))
 (.seq (.seq (.tree (.seq ⟨some 10, none, (.ofA (.mv (.cst (.v (.int .i64 0)))))⟩
  .done))
 (.block 2 (.loop (.seq (.tree (.seq ⟨some 11, none, (.ofA (.bin .lss (.tmp 10) (.cst (.v (.int .i64 8)))))⟩
  .done))
 (.seq (.cond (.tmp 11)
 .skip
 (.exit 2))
 (.seq (.block 3 (.seq (.tree (.seq ⟨some 12, none, (.ofA (.mv (.tmp 3)))⟩
  (.seq ⟨some 13, none, (.ofA (.bin .and (.tmp 12) (.cst (.v (.int .u32 1)))))⟩
  (.seq ⟨some 4, none, (.ofA (.mv (.tmp 13)))⟩
  .done))))
 (.seq (.tree (.seq ⟨some 14, none, (.ofA (.mv (.tmp 3)))⟩
  (.seq ⟨some 15, none, (.ofA (.bin .shr (.tmp 14) (.cst (.v (.int .u64 1)))))⟩
  (.seq ⟨some 3, none, (.ofA (.mv (.tmp 15)))⟩
  .done))))
 (.seq (.tree (.seq ⟨some 16, none, (.ofA (.mv (.tmp 4)))⟩
  (.seq ⟨some 17, none, (.ofA (.bin .eql (.tmp 16) (.cst (.v (.int .u32 1)))))⟩
  .done)))
 (.cond (.tmp 17)
 (.tree (.seq ⟨some 18, none, (.ofA (.mv (.tmp 3)))⟩
  (.seq ⟨some 19, none, (.ofA (.bin .xor (.tmp 18) (.cst (.v (.int .u32 2197175160)))))⟩
  (.seq ⟨some 3, none, (.ofA (.mv (.tmp 19)))⟩
  .done))))
 .skip)))))
 (.tree (.seq ⟨some 20, none, (.ofA (.bin .add (.tmp 10) (.cst (.v (.int .i64 1)))))⟩
  (.seq ⟨some 10, none, (.ofA (.mv (.tmp 20)))⟩
  .done)))))))))
 (.tree (.seq ⟨some 21, none, (.ofA (.mv (.tmp 0)))⟩
  (.seq ⟨some 22, none, (.ofA (.mv (.tmp 2)))⟩
  (.seq ⟨some 23, none, (.ofA (.mv (.tmp 3)))⟩
  (.seq ⟨some 24, none, (.ofA (.nilc (.tmp 21)))⟩
  (.seq ⟨some 25, none, (.ofA (.faddr 3 (.tmp 24)))⟩
  (.seq ⟨some 26, none, (.ofA (.iarr 256 1 (.tmp 25) (.tmp 22)))⟩
  (.seq ⟨none, none, (.store 1 (.tmp 26) (.tmp 23))⟩
  .done))))))))))))
 (.tree (.seq ⟨some 27, none, (.ofA (.bin .add (.tmp 5) (.cst (.v (.int .i64 1)))))⟩
  (.seq ⟨some 5, none, (.ofA (.mv (.tmp 27)))⟩
  .done)))))))))
def r172 : List XR := []
theorem fn172 : FnX Try.prog 172 [] 28 x172 r172 := ⟨_, Try.func172, by kernel_rfl, by kernel_rfl, by kernel_rfl, by kernel_rfl⟩
def lowI (v : Int) : Int := IntKind.u32.wrap (BitVec.ofInt IntKind.u32.bits v &&& BitVec.ofInt IntKind.u32.bits 1).toNat
def shI (v : Int) : Int := v.fdiv (2 ^ (min (1 : Int).toNat IntKind.u32.bits))
def xoI (v w : Int) : Int := IntKind.u32.wrap (BitVec.ofInt IntKind.u32.bits v ^^^ BitVec.ofInt IntKind.u32.bits w).toNat
def stepI (v : Int) : Int := if lowI v = 1 then xoI (shI v) 2197175160 else shI v
def stepN : Nat → Int → Int
  | 0, v => v
  | n + 1, v => stepI (stepN n v)
def crc8 (i : Nat) : Int := stepN 8 i
def tabN (i : Nat) : List SV := (List.range 256).map fun j => .v (.int .u32 (if j < i then crc8 j else 0))
def tabM (h : List SV) (i : Nat) : List SV := h ++ tabN i
theorem tabM_len {h : List SV} (h3 : h.length = 3) (i : Nat) : (tabM h i).length = 259 := by simp [tabM, tabN, h3]
theorem tabM_step {h : List SV} (h3 : h.length = 3) {i : Nat} (hi : i < 256) : over (tabM h i) (3 + i) [.v (.int .u32 (crc8 i))] = tabM h (i + 1) := by
  unfold over tabM
  apply List.ext_getElem?
  intro j
  by_cases h1 : j < 3
  · rw [List.getElem?_append_left (by simp [tabN, h3]; omega), List.getElem?_append_left (by simp [tabN, h3]; omega), List.getElem?_take, if_pos (by omega), List.getElem?_append_left (by omega), List.getElem?_append_left (by omega)]
  · rw [List.getElem?_append_right (l₁ := h) (by omega), h3]
    by_cases h2 : j < 3 + i
    · rw [List.getElem?_append_left (by simp [tabN, h3]; omega), List.getElem?_append_left (by simp [tabN, h3]; omega), List.getElem?_take, if_pos (by omega), List.getElem?_append_right (by omega), h3]
      unfold tabN
      simp only [List.getElem?_map, List.getElem?_range (show j - 3 < 256 by omega), Option.map_some]
      rw [if_pos (by omega), if_pos (by omega)]
    · by_cases h4 : j = 3 + i
      · subst h4
        rw [List.getElem?_append_left (by simp [tabN, h3]; omega), List.getElem?_append_right (by simp [tabN, h3]; omega)]
        have e : (3 + i - (List.take (3 + i) (h ++ tabN i)).length) = 0 := by simp [tabN, h3]; omega
        rw [e]
        unfold tabN
        rw [show 3 + i - 3 = i by omega]
        simp only [List.getElem?_map, List.getElem?_range hi, Option.map_some]
        rw [if_pos (by omega)]
        rfl
      · by_cases h5 : j < 259
        · rw [List.getElem?_append_right (by simp [tabN, h3]; omega), List.getElem?_drop]
          have e : 3 + i + [SV.v (.int .u32 (crc8 i))].length + (j - (List.take (3 + i) (h ++ tabN i) ++ [SV.v (.int .u32 (crc8 i))]).length) = j := by simp [tabN, h3]; omega
          rw [e, List.getElem?_append_right (by omega), h3]
          unfold tabN
          simp only [List.getElem?_map, List.getElem?_range (show j - 3 < 256 by omega), Option.map_some]
          rw [if_neg (by omega), if_neg (by omega)]
        · rw [List.getElem?_eq_none (by simp [tabN, h3]; omega), List.getElem?_eq_none (by simp [tabN]; omega)]
theorem w_u32 {x : Int} (h1 : 0 ≤ x) (h2 : x < 4294967296) : IntKind.u32.wrap x = x := by
  rw [IntKind.wrap_u32]; omega
def c172 [Inp] : Trans := fun args m k => match args with
  | [.ptr j 0] => ∃ h : List SV, h.length = 3 ∧ plainL h = true ∧ m[j]? = some ⟨true, tabM h 0⟩ ∧ k (.tup []) (m.set j ⟨true, tabM h 256⟩)
  | _ => False
theorem tabM_plain {h : List SV} (hp : plainL h = true) (i : Nat) : plainL (tabM h i) = true := by
  have : ∀ (a b : List SV), plainL a = true → plainL b = true → plainL (a ++ b) = true := by
    intro a b ha hb
    induction a with
    | nil => exact hb
    | cons x a ih => simp only [List.cons_append, plainL, Bool.and_eq_true] at ha ⊢; exact ⟨ha.1, ih ha.2⟩
  refine this _ _ hp ?_
  unfold tabN
  generalize List.range 256 = l
  induction l with
  | nil => rfl
  | cons x l ih => simp only [List.map_cons, plainL, SV.plain, Bool.true_and]; exact ih
theorem c172_ok [Inp] : Contract Try.prog 172 false c172 := by
  refine .meth fn172 (G := fun _ => []) (fun J => @g0 J _) _ fun args m k h => ?_
  unfold c172 at h
  split at h
  case h_2 => exact h.elim
  rename_i j
  obtain ⟨hd, h3, hp, hob, hk⟩ := h
  refine ⟨j, 0, [], _, rfl, hob, tabM_plain hp 0, by decide, fun J hJ vs hvs => ?_⟩
  obtain rfl : vs = [] := by simpa only [KnowsL] using hvs
  have hl := tabM_len h3
  have hL : ∀ i, LeL [0] (tabM hd i) (tabM hd i) := fun i => LeL_plain _ (tabM_plain hp i)
  simp (maxSteps := 2000000) -implicitDefEqProofs only [↓x172, ↓r172, s_alt, s_alt20, s_alt2t, s_alt2f, ↓s_loopi, ↓v_pq, ↓PRE, POST, CORE, Nat.reduceDiv, Nat.reduceMod, Int.reduceLT, Int.reduceLE, Int.reduceToNat, Int.reduceAdd, ↓reduceIte, Nat.reduceEqDiff, Nat.reduceAdd, Nat.reduceMul, Nat.reduceSub, Nat.reduceLeDiff, Nat.reduceLT, reduceCtorEq, if_true, eq_self, forall_const, implies_true]
  refine TXi_of (TX_count (g0 _) 256 (fun x => [(0, .ptr 0 0), (5, .v (.int .i64 (x : Int)))]) (fun x => [⟨true, tabM hd x⟩]) (fun x => True) trivial ?_ ?_ ?_)
  · exact (by refine ⟨[0], by simp [NdL, NdA, oO_cells, oO_own, iL_nil], ?_, ?_, keep1 hJ rfl⟩ <;> simp only [FitM, FitE, ObLe, LeL, Le, List.cons_append, List.nil_append] <;> (try (simp (maxSteps := 2000000) -implicitDefEqProofs only [hL, s_alt, s_alt20, s_alt2t, s_alt2f, ↓s_loopi, ↓v_pq, ↓PRE, POST, CORE, Nat.reduceDiv, Nat.reduceMod, Int.reduceLT, Int.reduceLE, Int.reduceToNat, Int.reduceAdd, ↓reduceIte, Nat.reduceEqDiff, Nat.reduceAdd, Nat.reduceMul, Nat.reduceSub, Nat.reduceLeDiff, Nat.reduceLT, reduceCtorEq, if_true, eq_self, forall_const, implies_true])) <;> (try simp only [Sz.Le, Sz.LeL, List.getElem?_cons_zero, List.getElem?_cons_succ]) <;> (try simp))
  · intro x hx _
    have i0 : (0 : Int) ≤ (x : Int) := by omega
    have i1 : (x : Int) < 256 := by omega
    have w1 : IntKind.i64.wrap ((x : Int) + 1) = (x : Int) + 1 := Sz.w_64 (by omega) (by omega)
    have w2 : IntKind.u32.wrap (x : Int) = (x : Int) := w_u32 (by omega) (by omega)
    simp (maxSteps := 2000000) -implicitDefEqProofs only [i0, i1, w1, w2, s_alt, s_alt20, s_alt2t, s_alt2f, ↓s_loopi, ↓v_pq, ↓PRE, POST, CORE, Nat.reduceDiv, Nat.reduceMod, Int.reduceLT, Int.reduceLE, Int.reduceToNat, Int.reduceAdd, ↓reduceIte, Nat.reduceEqDiff, Nat.reduceAdd, Nat.reduceMul, Nat.reduceSub, Nat.reduceLeDiff, Nat.reduceLT, reduceCtorEq, if_true, eq_self, forall_const, implies_true]
    refine TXi_of (TX_count (g0 _) 8 (fun y => [(0, .ptr 0 0), (2, .v (.int .i64 (x : Int))), (3, .v (.int .u32 (stepN y x))), (5, .v (.int .i64 (x : Int))), (10, .v (.int .i64 (y : Int)))]) (fun y => [⟨true, tabM hd x⟩]) (fun x => True) trivial ?_ ?_ ?_)
    · exact (by refine ⟨[0], by simp [NdL, NdA, oO_cells, oO_own, iL_nil], ?_, ?_, keep1 hJ rfl⟩ <;> simp only [FitM, FitE, ObLe, LeL, Le, List.cons_append, List.nil_append] <;> (try (simp (maxSteps := 2000000) -implicitDefEqProofs only [hL, stepN, s_alt, s_alt20, s_alt2t, s_alt2f, ↓s_loopi, ↓v_pq, ↓PRE, POST, CORE, Nat.reduceDiv, Nat.reduceMod, Int.reduceLT, Int.reduceLE, Int.reduceToNat, Int.reduceAdd, ↓reduceIte, Nat.reduceEqDiff, Nat.reduceAdd, Nat.reduceMul, Nat.reduceSub, Nat.reduceLeDiff, Nat.reduceLT, reduceCtorEq, if_true, eq_self, forall_const, implies_true])) <;> (try simp only [Sz.Le, Sz.LeL, List.getElem?_cons_zero, List.getElem?_cons_succ]) <;> (try simp))
    · intro y hy _
      have i2 : (0 : Int) ≤ (y : Int) := by omega
      have i3 : (y : Int) < 8 := by omega
      have w3 : IntKind.i64.wrap ((y : Int) + 1) = (y : Int) + 1 := Sz.w_64 (by omega) (by omega)
      simp (maxSteps := 2000000) -implicitDefEqProofs only [i2, i3, w3, s_alt, s_alt20, s_alt2t, s_alt2f, ↓s_loopi, ↓v_pq, ↓PRE, POST, CORE, Nat.reduceDiv, Nat.reduceMod, Int.reduceLT, Int.reduceLE, Int.reduceToNat, Int.reduceAdd, ↓reduceIte, Nat.reduceEqDiff, Nat.reduceAdd, Nat.reduceMul, Nat.reduceSub, Nat.reduceLeDiff, Nat.reduceLT, reduceCtorEq, if_true, eq_self, forall_const, implies_true]
      split
      · rename_i hc
        have e : stepN (y + 1) x = xoI (shI (stepN y x)) 2197175160 := if_pos (by simpa [lowI] using hc)
        rw [e]
        exact (by refine ⟨[0], by simp [NdL, NdA, oO_cells, oO_own, iL_nil], ?_, ?_, keep1 hJ rfl⟩ <;> simp only [FitM, FitE, ObLe, LeL, Le, List.cons_append, List.nil_append] <;> (try (simp (maxSteps := 2000000) -implicitDefEqProofs only [hL, shI, xoI, s_alt, s_alt20, s_alt2t, s_alt2f, ↓s_loopi, ↓v_pq, ↓PRE, POST, CORE, Nat.reduceDiv, Nat.reduceMod, Int.reduceLT, Int.reduceLE, Int.reduceToNat, Int.reduceAdd, ↓reduceIte, Nat.reduceEqDiff, Nat.reduceAdd, Nat.reduceMul, Nat.reduceSub, Nat.reduceLeDiff, Nat.reduceLT, reduceCtorEq, if_true, eq_self, forall_const, implies_true])) <;> (try simp only [Sz.Le, Sz.LeL, List.getElem?_cons_zero, List.getElem?_cons_succ]) <;> (try simp))
      · rename_i hc
        have e : stepN (y + 1) x = shI (stepN y x) := if_neg (by simpa [lowI] using hc)
        rw [e]
        exact (by refine ⟨[0], by simp [NdL, NdA, oO_cells, oO_own, iL_nil], ?_, ?_, keep1 hJ rfl⟩ <;> simp only [FitM, FitE, ObLe, LeL, Le, List.cons_append, List.nil_append] <;> (try (simp (maxSteps := 2000000) -implicitDefEqProofs only [hL, shI, xoI, s_alt, s_alt20, s_alt2t, s_alt2f, ↓s_loopi, ↓v_pq, ↓PRE, POST, CORE, Nat.reduceDiv, Nat.reduceMod, Int.reduceLT, Int.reduceLE, Int.reduceToNat, Int.reduceAdd, ↓reduceIte, Nat.reduceEqDiff, Nat.reduceAdd, Nat.reduceMul, Nat.reduceSub, Nat.reduceLeDiff, Nat.reduceLT, reduceCtorEq, if_true, eq_self, forall_const, implies_true])) <;> (try simp only [Sz.Le, Sz.LeL, List.getElem?_cons_zero, List.getElem?_cons_succ]) <;> (try simp))
    · intro _
      simp (maxSteps := 2000000) -implicitDefEqProofs only [i0, i1, w1, hl, s_alt, s_alt20, s_alt2t, s_alt2f, ↓s_loopi, ↓v_pq, ↓PRE, POST, CORE, Nat.reduceDiv, Nat.reduceMod, Int.reduceLT, Int.reduceLE, Int.reduceToNat, Int.reduceAdd, ↓reduceIte, Nat.reduceEqDiff, Nat.reduceAdd, Nat.reduceMul, Nat.reduceSub, Nat.reduceLeDiff, Nat.reduceLT, reduceCtorEq, if_true, eq_self, forall_const, implies_true]
      refine ⟨by omega, ?_⟩
      rw [show stepN 8 (x : Int) = crc8 x from rfl, tabM_step h3 hx]
      exact (by refine ⟨[0], by simp [NdL, NdA, oO_cells, oO_own, iL_nil], ?_, ?_, keep1 hJ rfl⟩ <;> simp only [FitM, FitE, ObLe, LeL, Le, List.cons_append, List.nil_append] <;> (try (simp (maxSteps := 2000000) -implicitDefEqProofs only [hL, s_alt, s_alt20, s_alt2t, s_alt2f, ↓s_loopi, ↓v_pq, ↓PRE, POST, CORE, Nat.reduceDiv, Nat.reduceMod, Int.reduceLT, Int.reduceLE, Int.reduceToNat, Int.reduceAdd, ↓reduceIte, Nat.reduceEqDiff, Nat.reduceAdd, Nat.reduceMul, Nat.reduceSub, Nat.reduceLeDiff, Nat.reduceLT, reduceCtorEq, if_true, eq_self, forall_const, implies_true])) <;> (try simp only [Sz.Le, Sz.LeL, List.getElem?_cons_zero, List.getElem?_cons_succ]) <;> (try simp))
  · intro _
    simp (maxSteps := 2000000) -implicitDefEqProofs only [hl, s_alt, s_alt20, s_alt2t, s_alt2f, ↓s_loopi, ↓v_pq, ↓PRE, POST, CORE, Nat.reduceDiv, Nat.reduceMod, Int.reduceLT, Int.reduceLE, Int.reduceToNat, Int.reduceAdd, ↓reduceIte, Nat.reduceEqDiff, Nat.reduceAdd, Nat.reduceMul, Nat.reduceSub, Nat.reduceLeDiff, Nat.reduceLT, reduceCtorEq, if_true, eq_self, forall_const, implies_true]
    exact ⟨_, rfl, tabM_plain hp 256, hk⟩
def hd0 : List SV := [.v (.int .u32 0), .v (.int .i32 0), .v (.int .u32 0)]
def hdm : List SV := [.v (.int .u32 0), .v (.int .i32 1), .v (.int .u32 0)]
def hd1 : List SV := [.v (.int .u32 1), .v (.int .i32 0), .v (.int .u32 0)]
def c171 [Inp] : Trans := fun args m k => match args with
  | [.ptr j 0, .bnd f [.ptr j' 0]] => (f = 172 ∧ j' = j ∧ m[j]? = some ⟨true, tabM hd0 0⟩) ∧ k (.tup []) (m.set j ⟨true, tabM hd1 256⟩)
  | _ => False
theorem c171_ok [Inp] : Contract Try.prog 171 false c171 := by
  refine ⟨⟨_, Try.func171, by kernel_rfl, by kernel_rfl⟩, fun args m k base w0 W r vs ht hst ha => ?_⟩
  unfold c171 at ht
  split at ht
  case h_2 => exact ht.elim
  rename_i j f j'
  obtain ⟨⟨rfl, rfl, hob⟩, hk⟩ := ht
  obtain ⟨l, t1, hl, rfl, ha1⟩ := ptr_inv ha
  simp only [SV.IsL, SV.Is] at ha1
  obtain ⟨u2, t2, rfl, ⟨us2, rfl, u3, t3, rfl, ⟨l3, hl3, rfl⟩, rfl⟩, rfl⟩ := ha1
  rw [hl] at hl3; injection hl3 with hl3; subst hl3
  have hj : j' < m.length := (List.getElem?_eq_some_iff.1 hob).1
  have len0 : ∀ h : List SV, h.length = 3 → ∀ i o, o ≤ 2 → o < (tabM h i).length := fun h h3 i o ho => by rw [tabM_len h3]; omega
  obtain ⟨l4, x0, hl4, h0, i0⟩ := hst.cellAt (o := 0) (s := .v (.int .u32 0)) hob rfl
  rw [hl] at hl4; injection hl4 with hl4; subst hl4
  obtain ⟨l5, x1, hl5, h1, i1⟩ := hst.cellAt (o := 1) (s := .v (.int .i32 0)) hob rfl
  rw [hl] at hl5; injection hl5 with hl5; subst hl5
  simp only [SV.Is] at i0 i1
  subst i0 i1
  obtain ⟨f1, hst1⟩ := hst.setAt (o := 1) (s' := .v (.int .i32 1)) (u := .int .i32 1) hl hob rfl (len0 hd0 rfl 0 1 (by omega)) (by simp only [SV.Is])
  have hob1 : (m.set j' ⟨true, (tabM hd0 0).set 1 (.v (.int .i32 1))⟩)[j']? = some ⟨true, tabM hdm 0⟩ := by
    rw [List.getElem?_set_self hj]
    rfl
  have hcall := c172_ok.calls [.ptr j' 0] _ (fun _ m' => m' = (m.set j' ⟨true, (tabM hd0 0).set 1 (.v (.int .i32 1))⟩).set j' ⟨true, tabM hdm 256⟩) base w0 _ r [.pointer (some ⟨l.blk, l.off + 0, none⟩)] ⟨hdm, rfl, rfl, hob1, rfl⟩ hst1 (by
    simp only [SV.IsL, SV.Is]
    exact ⟨_, _, rfl, ⟨l, hl, rfl⟩, rfl⟩)
  rw [List.set_set] at hcall
  have hobE : (m.set j' ⟨true, tabM hdm 256⟩)[j']? = some ⟨true, tabM hdm 256⟩ := List.getElem?_set_self hj
  have app : ∀ t, (r ++ t)[j']? = some l := fun t => by rw [List.getElem?_append_left (List.getElem?_eq_some_iff.1 hl).1]; exact hl
  refine (n_do l.blk l.off W (fun w2 => ∃ t, St base w0 (r ++ t) (m.set j' ⟨true, tabM hdm 256⟩) w2) h0 h1 f1 (hcall.mono ?_) ?_).mono ?_
  · rintro e W1 ⟨s, m', t, u, rfl, rfl, hst2, _, _⟩
    exact ⟨⟨u, rfl⟩, t, hst2⟩
  · rintro w2 ⟨t, hst2⟩
    obtain ⟨l6, y0, hl6, g0, _⟩ := hst2.cellAt (o := 0) (s := .v (.int .u32 0)) hobE rfl
    rw [app] at hl6; injection hl6 with hl6; subst hl6
    obtain ⟨l7, y1, hl7, g1, e1⟩ := hst2.cellAt (o := 1) (s := .v (.int .i32 1)) hobE rfl
    rw [app] at hl7; injection hl7 with hl7; subst hl7
    simp only [SV.Is] at e1
    subst e1
    exact ⟨⟨_, g0⟩, g1, (hst2.setAt (o := 0) (s' := .v (.int .i32 1)) (u := .int .i32 1) (app t) hobE rfl (len0 hdm rfl 256 0 (by omega)) (by simp only [SV.Is])).1, (hst2.setAt (o := 1) (s' := .v (.int .i32 1)) (u := .int .i32 1) (app t) hobE rfl (len0 hdm rfl 256 1 (by omega)) (by simp only [SV.Is])).1⟩
  · rintro e W1 ⟨rfl, w2, ⟨t, hst2⟩, rfl⟩
    have a1 := (hst2.drew.setAt (o := 0) (s' := .v (.int .u32 1)) (u := .int .u32 1) (app t) hobE rfl (len0 hdm rfl 256 0 (by omega)) (by simp only [SV.Is])).2
    rw [List.set_set] at a1
    have hobF : (m.set j' ⟨true, (tabM hdm 256).set 0 (.v (.int .u32 1))⟩)[j']? = some ⟨true, (tabM hdm 256).set 0 (.v (.int .u32 1))⟩ := List.getElem?_set_self hj
    have a2 := (a1.setAt (o := 1) (s' := .v (.int .i32 0)) (u := .int .i32 0) (app t) hobF rfl (by show 1 < ((tabM hdm 256).set 0 (.v (.int .u32 1))).length; rw [List.length_set]; exact len0 hdm rfl 256 1 (by omega)) (by simp only [SV.Is])).2
    rw [List.set_set] at a2
    exact ⟨.tup [], _, t, _, hk, rfl, a2, by simp only [SV.Is]; exact ⟨[], rfl, by simp only [SV.IsL]⟩, fun h => by cases h⟩
end Go.Proofs.Ytibefgdjijmncaa
end
section
namespace Go.Proofs.Ytibefgdjijmncaa
open Go.RowKit Sz
set_option maxHeartbeats 4000000
set_option maxRecDepth 20000
-- (*almshouse/sum.table).on (3 parameters)
def x165 : XC := (.seq (.tree (.seq ⟨some 6, none, (.ofA (.mv (.cst (.v (.int .u32 0)))))⟩
  .done))
 (.seq (.tree (.seq ⟨some 9, none, (.ofA (.mv (.tmp 0)))⟩
  (.seq ⟨some 10, none, (.ofA (.nilc (.tmp 9)))⟩
  (.seq ⟨some 11, none, (.ofA (.faddr 0 (.tmp 10)))⟩
  (.seq ⟨some 12, none, (.ofA (.mv (.tmp 0)))⟩
  (.seq ⟨some 13, none, (.ofA (.mkbnd 172 [(.tmp 12)]))⟩
  (.seq ⟨some 14, none, (.call (.cst (.fn 171 [])) [(.tmp 11), (.tmp 13)])⟩
  .done)))))))
 (.seq (.seq (.tree (.seq ⟨some 15, none, (.ofA (.mv (.tmp 2)))⟩
  (.seq ⟨some 16, none, (.ofA (.len (.tmp 15)))⟩
  (.seq ⟨some 17, none, (.ofA (.mv (.cst (.v (.int .i64 0)))))⟩
  .done))))
 (.block 0 (.loop (.seq (.tree (.seq ⟨some 18, none, (.ofA (.bin .lss (.tmp 17) (.tmp 16)))⟩
  .done))
 (.seq (.cond (.tmp 18)
 .skip
 (.exit 0))
 (.seq (.block 1 (.seq (.tree (.seq ⟨some 19, none, (.ofA (.isl 1 (.tmp 15) (.tmp 17)))⟩
  (.seq ⟨some 20, none, (.ofA (.load none (.tmp 19)))⟩
  (.seq ⟨some 8, none, (.ofA (.mv (.tmp 20)))⟩
  .done))))
 (.tree (.seq ⟨some 21, none, (.ofA (.mv (.tmp 1)))⟩
  (.seq ⟨some 22, none, (.ofA (.bin .shr (.tmp 21) (.cst (.v (.int .u64 8)))))⟩
  (.seq ⟨some 23, none, (.ofA (.mv (.tmp 0)))⟩
  (.seq ⟨some 24, none, (.ofA (.mv (.tmp 1)))⟩
  (.seq ⟨some 25, none, (.ofA (.conv .u8 (.tmp 24)))⟩
  (.seq ⟨some 26, none, (.ofA (.mv (.tmp 8)))⟩
  (.seq ⟨some 27, none, (.ofA (.bin .xor (.tmp 25) (.tmp 26)))⟩
  (.seq ⟨some 28, none, (.ofA (.nilc (.tmp 23)))⟩
  (.seq ⟨some 29, none, (.ofA (.faddr 3 (.tmp 28)))⟩
  (.seq ⟨some 30, none, (.ofA (.iarr 256 1 (.tmp 29) (.tmp 27)))⟩
  (.seq ⟨some 31, none, (.ofA (.load none (.tmp 30)))⟩
  (.seq ⟨some 32, none, (.ofA (.bin .xor (.tmp 22) (.tmp 31)))⟩
  (.seq ⟨some 1, none, (.ofA (.mv (.tmp 32)))⟩
  .done))))))))))))))))
 (.tree (.seq ⟨some 33, none, (.ofA (.bin .add (.tmp 17) (.cst (.v (.int .i64 1)))))⟩
  (.seq ⟨some 17, none, (.ofA (.mv (.tmp 33)))⟩
  .done)))))))))
 (.seq (.tree (.seq ⟨some 34, none, (.ofA (.mv (.tmp 1)))⟩
  (.seq ⟨some 6, none, (.ofA (.mv (.tmp 34)))⟩
  .done)))
 .ret))))
def r165 : List XR := [.tmp 6]
theorem fn165 : FnX Try.prog 165 [] 35 x165 r165 := ⟨_, Try.func165, by kernel_rfl, by kernel_rfl, by kernel_rfl, by kernel_rfl⟩
-- almshouse/sum.On (2 parameters)
def x147 : XC := (.seq (.tree (.seq ⟨some 4, none, (.ofA (.mv (.cst (.v (.int .u32 0)))))⟩
  .done))
 (.seq (.tree (.seq ⟨some 5, none, (.alloc (tabM hd0 0))⟩
  .done))
 (.seq (.tree (.seq ⟨some 6, none, (.ofA (.mv (.tmp 0)))⟩
  (.seq ⟨some 7, none, (.ofA (.un .xor (.tmp 6)))⟩
  (.seq ⟨some 8, none, (.ofA (.mv (.tmp 1)))⟩
  (.seq ⟨some 9, none, (.call (.cst (.fn 165 [])) [(.tmp 5), (.tmp 7), (.tmp 8)])⟩
  (.seq ⟨some 10, none, (.ofA (.un .xor (.tmp 9)))⟩
  (.seq ⟨some 4, none, (.ofA (.mv (.tmp 10)))⟩
  .done)))))))
 .ret)))
def r147 : List XR := [.tmp 4]
theorem fn147 : FnX Try.prog 147 [] 11 x147 r147 := ⟨_, Try.func147, by kernel_rfl, by kernel_rfl, by kernel_rfl, by kernel_rfl⟩
-- almshouse/sum.Of (1 parameters)
def x123 : XC := (.seq (.tree (.seq ⟨some 2, none, (.ofA (.mv (.cst (.v (.int .u32 0)))))⟩
  .done))
 (.seq (.tree (.seq ⟨some 3, none, (.ofA (.mv (.tmp 0)))⟩
  (.seq ⟨some 4, none, (.call (.cst (.fn 147 [])) [(.cst (.v (.int .u32 0))), (.tmp 3)])⟩
  (.seq ⟨some 2, none, (.ofA (.mv (.tmp 4)))⟩
  .done))))
 .ret))
def r123 : List XR := [.tmp 2]
theorem fn123 : FnX Try.prog 123 [] 5 x123 r123 := ⟨_, Try.func123, by kernel_rfl, by kernel_rfl, by kernel_rfl, by kernel_rfl⟩
def bL (xs : List Int) : List SV := xs.map fun x => .v (.int .u8 x)
theorem bL_eq (xs : List Int) : bL xs = (xs.map (Value.int .u8)).map SV.v := by simp [bL, List.map_map, Function.comp_def]
def decB : List SV → Option (List Int)
  | [] => some []
  | .v (.int .u8 x) :: l => (decB l).map (x :: ·)
  | _ :: _ => none
theorem decB_inv : ∀ {l : List SV} {xs : List Int}, decB l = some xs → l = bL xs
  | [], xs, h => by simp only [decB] at h; injection h with h; subst h; rfl
  | a :: l, xs, h => by
    unfold decB at h
    split at h
    · rename_i heq; cases heq
    · rename_i heq
      cases heq
      obtain ⟨ys, h1, rfl⟩ := Option.map_eq_some_iff.1 h
      rw [decB_inv h1]
      rfl
    · cases h
theorem decB_bL {xs : List Int} : decB (bL xs) = some xs := by
  induction xs with
  | nil => rfl
  | cons x xs ih =>
    show (decB (bL xs)).map (x :: ·) = _
    rw [ih]
    rfl
def rdB [Inp] (m : Mem) (s : SV) : Option (List Int) := (slOf m 1 s).bind fun p => decB p.2
theorem rdB_knows {I J : Inp} {m : Mem} {s : SV} {u : Value} {xs : List Int} (h : @rdB I m s = some xs) (hk : Knows I J m s u) :
    ∃ p c, u = .slice p xs.length c ∧ @inpL J p xs.length = some (xs.map (Value.int .u8)) := by
  unfold rdB at h
  obtain ⟨⟨n, ys⟩, h1, h2⟩ := Option.bind_eq_some_iff.1 h
  have h3 := decB_inv h2
  simp only at h3
  subst h3
  have hl := @slOf_len I _ _ _ _ _ h1
  have hn : n = xs.length := by simpa [bL] using hl.symm
  subst hn
  rw [bL_eq] at h1
  obtain ⟨p, c, rfl, h5⟩ := hk.2.2 1 _ _ h1
  rw [Nat.mul_one] at h5
  exact ⟨p, c, rfl, h5⟩
theorem rdB_v [Inp] {m : Mem} {p : Option Addr} {n c : Nat} {xs : List Int} (h : inpL p n = some (xs.map (Value.int .u8))) : rdB m (.v (.slice p n c)) = some xs := by
  unfold rdB
  simp only [slOf, Nat.mul_one, h, Option.map_some, Option.bind_some]
  rw [← bL_eq, decB_bL]
theorem inpB_at [Inp] {p : Option Addr} {xs : List Int} (h : inpL p xs.length = some (xs.map (Value.int .u8))) {i : Nat} {x : Int} (hx : xs[i]? = some x) : inpL (plusA p i) 1 = some [.int .u8 x] := by
  have hlt := (List.getElem?_eq_some_iff.1 hx).1
  rw [inpL_part h (by omega)]
  congr 1
  have := (List.getElem?_eq_some_iff.1 hx).2
  rw [← List.map_drop, ← List.map_take, List.drop_eq_getElem_cons hlt, this]
  rfl
def ixI (v c : Int) : Int := IntKind.u8.wrap (BitVec.ofInt IntKind.u8.bits (IntKind.u8.wrap v) ^^^ BitVec.ofInt IntKind.u8.bits c).toNat
theorem ixI_lo (v c : Int) : 0 ≤ ixI v c := by unfold ixI; rw [IntKind.wrap_u8]; omega
theorem ixI_hi (v c : Int) : ixI v c < 256 := by unfold ixI; rw [IntKind.wrap_u8]; omega
def sh8 (v : Int) : Int := v.fdiv (2 ^ (min (8 : Int).toNat IntKind.u32.bits))
def onS (v c : Int) : Int := xoI (sh8 v) (crc8 (ixI v c).toNat)
def onF (v : Int) (bs : List Int) : Int := bs.foldl onS v
theorem onF_snoc {v : Int} {bs : List Int} {x : Nat} {c : Int} (h : bs[x]? = some c) : onF v (bs.take (x + 1)) = onS (onF v (bs.take x)) c := by
  unfold onF
  rw [List.take_add_one, h]
  simp
theorem tabM_get {h : List SV} (h3 : h.length = 3) {i : Nat} (hi : i < 256) : (tabM h 256)[3 + i]? = some (.v (.int .u32 (crc8 i))) := by
  unfold tabM tabN
  rw [List.getElem?_append_right (by omega), h3, show 3 + i - 3 = i by omega]
  simp only [List.getElem?_map, List.getElem?_range hi, Option.map_some]
  rw [if_pos hi]
def c165 [Inp] : Trans := fun args m k => match args with
  | [.ptr j 0, .v (.int .u32 v), b] => (m[j]? = some ⟨true, tabM hd0 0⟩) ∧ ∃ bs : List Int, rdB (m.set j ⟨false, []⟩) b = some bs ∧ bs.length ≤ 9223372036854775807 ∧ k (.v (.int .u32 (onF v bs))) (m.set j ⟨true, tabM hd1 256⟩)
  | _ => False
theorem g171 [Inp] : GOk Try.prog [⟨171, false, c171⟩] := GOk.cons c171_ok (g0 _)
theorem c165_ok [Inp] : Contract Try.prog 165 false c165 := by
  refine .meth fn165 (G := fun J => [⟨171, false, @c171 J⟩]) (fun J => @g171 J) _ fun args m k h => ?_
  unfold c165 at h
  split at h
  case h_2 => exact h.elim
  rename_i j v b
  obtain ⟨hob, bs, hb, hmax, hk⟩ := h
  refine ⟨j, 0, [.v (.int .u32 v), b], _, rfl, hob, tabM_plain rfl 0, by simp, fun J hJ vs hvs => ?_⟩
  obtain ⟨u1, t1, rfl, hk1, u2, t2, rfl, hk2, rfl⟩ := hvs
  obtain rfl := hk1.1 _ rfl
  obtain ⟨p, c, rfl, hin⟩ := rdB_knows hb hk2
  have hl := tabM_len (h := hd1) rfl
  have hL : ∀ i, LeL [0] (tabM hd1 i) (tabM hd1 i) := fun i => LeL_plain _ (tabM_plain rfl i)
  simp (maxSteps := 2000000) -implicitDefEqProofs only [↓x165, ↓r165, c171, s_alt, s_alt20, s_alt2t, s_alt2f, ↓s_loopi, ↓v_pq, ↓PRE, POST, CORE, Nat.reduceDiv, Nat.reduceMod, Int.reduceLT, Int.reduceLE, Int.reduceToNat, Int.reduceAdd, ↓reduceIte, Nat.reduceEqDiff, Nat.reduceAdd, Nat.reduceMul, Nat.reduceSub, Nat.reduceLeDiff, Nat.reduceLT, reduceCtorEq, if_true, eq_self, forall_const, implies_true]
  refine TXi_of (TX_count (g171) bs.length (fun x => [(0, .ptr 0 0), (1, .v (.int .u32 (onF v (bs.take x)))), (15, .v (.slice p bs.length c)), (16, .v (.int .i64 (bs.length : Int))), (17, .v (.int .i64 (x : Int)))]) (fun x => [⟨true, tabM hd1 256⟩]) (fun x => True) trivial ?_ ?_ ?_)
  · exact (by refine ⟨[0], by simp [NdL, NdA, oO_cells, oO_own, iL_nil], ?_, ?_, keep1 hJ rfl⟩ <;> simp only [FitM, FitE, ObLe, LeL, Le, List.cons_append, List.nil_append] <;> (try (simp (maxSteps := 2000000) -implicitDefEqProofs only [hL, List.take_zero, onF, List.foldl_nil, s_alt, s_alt20, s_alt2t, s_alt2f, ↓s_loopi, ↓v_pq, ↓PRE, POST, CORE, Nat.reduceDiv, Nat.reduceMod, Int.reduceLT, Int.reduceLE, Int.reduceToNat, Int.reduceAdd, ↓reduceIte, Nat.reduceEqDiff, Nat.reduceAdd, Nat.reduceMul, Nat.reduceSub, Nat.reduceLeDiff, Nat.reduceLT, reduceCtorEq, if_true, eq_self, forall_const, implies_true])) <;> (try simp only [Sz.Le, Sz.LeL, List.getElem?_cons_zero, List.getElem?_cons_succ]) <;> (try simp))
  · intro x hx _
    obtain ⟨b0, hb0⟩ : ∃ b0, bs[x]? = some b0 := ⟨_, List.getElem?_eq_getElem hx⟩
    have f := inpB_at hin hb0
    have hp : p.isSome = true := inpL_isSome hin (by omega)
    have i0 : (0 : Int) ≤ (x : Int) := by omega
    have i1 : (x : Int) < (bs.length : Int) := by omega
    have w1 : IntKind.i64.wrap ((x : Int) + 1) = (x : Int) + 1 := Sz.w_64 (by omega) (by omega)
    have e := onF_snoc (v := v) hb0
    generalize onF v (bs.take x) = y at e ⊢
    have j0 : 0 ≤ ixI y b0 := ixI_lo y b0
    have j1 : ixI y b0 < 256 := ixI_hi y b0
    have j2 := tabM_get (h := hd1) rfl (i := (ixI y b0).toNat) (by omega)
    simp only [onS, ixI, sh8, xoI] at e j0 j1 j2
    simp (maxSteps := 2000000) -implicitDefEqProofs only [f, hp, i0, i1, w1, j0, j1, j2, s_alt, s_alt20, s_alt2t, s_alt2f, ↓s_loopi, ↓v_pq, ↓PRE, POST, CORE, Nat.reduceDiv, Nat.reduceMod, Int.reduceLT, Int.reduceLE, Int.reduceToNat, Int.reduceAdd, ↓reduceIte, Nat.reduceEqDiff, Nat.reduceAdd, Nat.reduceMul, Nat.reduceSub, Nat.reduceLeDiff, Nat.reduceLT, reduceCtorEq, if_true, eq_self, forall_const, implies_true]
    rw [e]
    exact (by refine ⟨[0], by simp [NdL, NdA, oO_cells, oO_own, iL_nil], ?_, ?_, keep1 hJ rfl⟩ <;> simp only [FitM, FitE, ObLe, LeL, Le, List.cons_append, List.nil_append] <;> (try (simp (maxSteps := 2000000) -implicitDefEqProofs only [hL, s_alt, s_alt20, s_alt2t, s_alt2f, ↓s_loopi, ↓v_pq, ↓PRE, POST, CORE, Nat.reduceDiv, Nat.reduceMod, Int.reduceLT, Int.reduceLE, Int.reduceToNat, Int.reduceAdd, ↓reduceIte, Nat.reduceEqDiff, Nat.reduceAdd, Nat.reduceMul, Nat.reduceSub, Nat.reduceLeDiff, Nat.reduceLT, reduceCtorEq, if_true, eq_self, forall_const, implies_true])) <;> (try simp only [Sz.Le, Sz.LeL, List.getElem?_cons_zero, List.getElem?_cons_succ]) <;> (try simp))
  · intro _
    have i1 : ¬ (bs.length : Int) < (bs.length : Int) := by omega
    simp (maxSteps := 2000000) -implicitDefEqProofs only [i1, List.take_length, s_alt, s_alt20, s_alt2t, s_alt2f, ↓s_loopi, ↓v_pq, ↓PRE, POST, CORE, Nat.reduceDiv, Nat.reduceMod, Int.reduceLT, Int.reduceLE, Int.reduceToNat, Int.reduceAdd, ↓reduceIte, Nat.reduceEqDiff, Nat.reduceAdd, Nat.reduceMul, Nat.reduceSub, Nat.reduceLeDiff, Nat.reduceLT, reduceCtorEq, if_true, eq_self, forall_const, implies_true]
    exact ⟨_, rfl, tabM_plain rfl 256, hk⟩
def noI (v : Int) : Int := IntKind.u32.wrap (BitVec.ofInt IntKind.u32.bits (if IntKind.u32.signed then -1 else IntKind.u32.max) ^^^ BitVec.ofInt IntKind.u32.bits v).toNat
def sumF (s : Int) (bs : List Int) : Int := noI (onF (noI s) bs)
def c147 [Inp] : Trans := fun args m k => match args with
  | [.v (.int .u32 s), b] => ∃ bs : List Int, rdB m b = some bs ∧ bs.length ≤ 9223372036854775807 ∧ k (.v (.int .u32 (sumF s bs))) m
  | _ => False
theorem g165 [Inp] : GOk Try.prog [⟨165, false, c165⟩] := GOk.cons c165_ok (g0 _)
theorem c147_ok [Inp] : Contract Try.prog 147 true c147 := by
  refine .read fn147 (G := fun J => [⟨165, false, @c165 J⟩]) (fun J => @g165 J) _ fun args m k h => ?_
  unfold c147 at h
  split at h
  case h_2 => exact h.elim
  rename_i v b
  obtain ⟨bs, hb, hmax, hk⟩ := h
  refine ⟨by simp, fun J hJ vs hvs => ?_⟩
  obtain ⟨u1, t1, rfl, hk1, u2, t2, rfl, hk2, rfl⟩ := hvs
  obtain rfl := hk1.1 _ rfl
  obtain ⟨p, c, rfl, hin⟩ := rdB_knows hb hk2
  have hr : ∀ m, rdB m (.v (.slice p bs.length c)) = some bs := fun m => rdB_v hin
  simp (maxSteps := 2000000) -implicitDefEqProofs only [↓x147, ↓r147, c165, hr, s_alt, s_alt20, s_alt2t, s_alt2f, ↓s_loopi, ↓v_pq, ↓PRE, POST, CORE, Nat.reduceDiv, Nat.reduceMod, Int.reduceLT, Int.reduceLE, Int.reduceToNat, Int.reduceAdd, ↓reduceIte, Nat.reduceEqDiff, Nat.reduceAdd, Nat.reduceMul, Nat.reduceSub, Nat.reduceLeDiff, Nat.reduceLT, reduceCtorEq, if_true, eq_self, forall_const, implies_true]
  exact ⟨bs, rfl, hmax, hk⟩
theorem g147 [Inp] : GOk Try.prog [⟨147, true, c147⟩] := GOk.cons c147_ok (g0 _)
def c123 [Inp] : Trans := fun args m k => match args with
  | [b] => ∃ bs : List Int, rdB m b = some bs ∧ bs.length ≤ 9223372036854775807 ∧ k (.v (.int .u32 (sumF 0 bs))) m
  | _ => False
theorem c123_ok [Inp] : Contract Try.prog 123 true c123 := by
  refine .read fn123 (G := fun J => [⟨147, true, @c147 J⟩]) (fun J => @g147 J) _ fun args m k h => ?_
  unfold c123 at h
  split at h
  case h_2 => exact h.elim
  rename_i b
  obtain ⟨bs, hb, hmax, hk⟩ := h
  refine ⟨by simp, fun J hJ vs hvs => ?_⟩
  obtain ⟨u2, t2, rfl, hk2, rfl⟩ := hvs
  obtain ⟨p, c, rfl, hin⟩ := rdB_knows hb hk2
  have hr : ∀ m, rdB m (.v (.slice p bs.length c)) = some bs := fun m => rdB_v hin
  simp (maxSteps := 2000000) -implicitDefEqProofs only [↓x123, ↓r123, c147, hr, s_alt, s_alt20, s_alt2t, s_alt2f, ↓s_loopi, ↓v_pq, ↓PRE, POST, CORE, Nat.reduceDiv, Nat.reduceMod, Int.reduceLT, Int.reduceLE, Int.reduceToNat, Int.reduceAdd, ↓reduceIte, Nat.reduceEqDiff, Nat.reduceAdd, Nat.reduceMul, Nat.reduceSub, Nat.reduceLeDiff, Nat.reduceLT, reduceCtorEq, if_true, eq_self, forall_const, implies_true]
  exact ⟨bs, rfl, hmax, hk⟩
end Go.Proofs.Ytibefgdjijmncaa
end
