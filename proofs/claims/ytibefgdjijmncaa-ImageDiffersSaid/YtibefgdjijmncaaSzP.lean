/- Symbolic walks: atomics for the runner. No condition. -/
import Derived.Test.YtibefgdjijmncaaSzZ
import Derived.Test.YtibefgdjijmncaaSzT
namespace Go.Proofs.Ytibefgdjijmncaa.Sz
open Go.RowKit
def cellN (lo : Nat) (mm : MM) (j o : Nat) (k : IntKind) : Option Int := match mm.at_ lo j with
  | some ob => (match ob.cells[o]? with | some (.v (.int k' x)) => bif keqB k' k then some x else none | _ => none)
  | none => none
def setN (lo : Nat) (mm : MM) (j o : Nat) (s : SV) : Option MM := match mm.at_ lo j with
  | some ob => bif ob.own && Nat.blt o ob.cells.length then mm.put lo j ⟨true, ob.cells.set o s⟩ else none
  | none => none
def nLoad (k : IntKind) : Nat_ := fun args lo mm => match args with
  | [.ptr j o] => (match cellN lo mm j o k with | some x => some [(.v (.int k x), mm)] | none => none)
  | _ => none
def nStore : Nat_ := fun args lo mm => match args with
  | [.ptr j o, .v (.int k y)] => (match setN lo mm j o (.v (.int k y)) with | some m' => some [(.tup [], m')] | none => none)
  | _ => none
def nAdd (k : IntKind) : Nat_ := fun args lo mm => match args with
  | [.ptr j o, .v (.int k' y)] => bif keqB k' k then (match cellN lo mm j o k with
    | some x => (match setN lo mm j o (.v (.int k (wrapF k (x + y)))) with | some m' => some [(.v (.int k (wrapF k (x + y))), m')] | none => none)
    | none => none) else none
  | _ => none
theorem cellN_ok {lo : Nat} {mm : MM} {j o : Nat} {k : IntKind} {x : Int} (h : cellN lo mm j o k = some x) : cellI (mm.mem lo) j o k = some x := by
  unfold cellN at h
  unfold cellI
  rw [mem_at]
  split at h
  · rename_i ob hob
    simp only [hob]
    split at h
    · rename_i k' x' hc
      obtain ⟨hk, h2⟩ := bif_some h
      obtain rfl := keqB_ok hk
      subst h2
      simp [hc]
    · cases h
  · cases h
theorem setN_ok {lo : Nat} {mm m' : MM} {j o : Nat} {s : SV} (h : setN lo mm j o s = some m') : setI (mm.mem lo) j o s = some (m'.mem lo) ∧ Keep lo mm m' := by
  unfold setN at h
  unfold setI
  rw [mem_at]
  split at h
  · rename_i ob hob
    simp only [hob]
    obtain ⟨hc, h⟩ := bif_some' h
    rw [Bool.and_eq_true, blt_iff] at hc
    obtain ⟨e1, e2, e3⟩ := put_ok h
    rw [e1]
    refine ⟨by simp [hc.1, blt_iff.2 hc.2], by rw [e2]; exact Nat.le_refl _, e3⟩
  · cases h
theorem ExtC.mono [Inp] {P : Program} {f : FuncId} {q : Bool} {tr tr' : Trans} (h : ExtC P f q tr) (ht : ∀ args m k, tr' args m k → tr args m k) : ExtC P f q tr' :=
  ⟨fun args m k base w0 W r vs h1 => h.runs args m k base w0 W r vs (ht _ _ _ h1)⟩
theorem load_nat [Inp] {P : Program} {f : FuncId} {k : IntKind} (h : ExtC P f true (trOf (gLoad k))) : Callable P f true (natTr (nLoad k)) := .inr (h.mono fun args m c ht => by
  obtain ⟨lo, mm, L, hlo, rfl, hL, hc⟩ := ht
  unfold nLoad at hL
  split at hL
  case h_2 => cases hL
  rename_i j o
  split at hL
  case h_2 => cases hL
  rename_i x hx
  injection hL with hL; subst hL
  unfold trOf gLoad
  simp only [cellN_ok hx]
  intro p hp
  simp only [List.mem_singleton] at hp
  subst hp
  exact hc _ (List.mem_singleton.2 rfl) (Keep.refl _ _))
theorem store_nat [Inp] {P : Program} {f : FuncId} (h : ExtC P f false (trOf gStore)) : Callable P f false (natTr nStore) := .inr (h.mono fun args m c ht => by
  obtain ⟨lo, mm, L, hlo, rfl, hL, hc⟩ := ht
  unfold nStore at hL
  split at hL
  case h_2 => cases hL
  rename_i j o k y
  split at hL
  case h_2 => cases hL
  rename_i m' hm
  injection hL with hL; subst hL
  obtain ⟨h1, h2⟩ := setN_ok hm
  unfold trOf gStore
  simp only [h1]
  intro p hp
  simp only [List.mem_singleton] at hp
  subst hp
  exact hc _ (List.mem_singleton.2 rfl) h2)
theorem add_nat [Inp] {P : Program} {f : FuncId} {k : IntKind} (h : ExtC P f false (trOf (gAdd k))) : Callable P f false (natTr (nAdd k)) := .inr (h.mono fun args m c ht => by
  obtain ⟨lo, mm, L, hlo, rfl, hL, hc⟩ := ht
  unfold nAdd at hL
  split at hL
  case h_2 => cases hL
  rename_i j o k' y
  obtain ⟨hk, hM⟩ := bif_some' hL
  clear hL
  obtain rfl := keqB_ok hk
  split at hM
  case h_2 => cases hM
  rename_i x hx
  split at hM
  case h_2 => cases hM
  rename_i m' hm
  injection hM with hM; subst hM
  rw [wrapF_ok] at hm
  obtain ⟨h1, h2⟩ := setN_ok hm
  unfold trOf gAdd
  simp only [cellN_ok hx, h1, if_true]
  intro p hp
  simp only [List.mem_singleton] at hp
  subst hp
  rw [← wrapF_ok]
  exact hc _ (List.mem_singleton.2 rfl) h2)
end Go.Proofs.Ytibefgdjijmncaa.Sz
