/- Walks and plain facts for the law ImageParses, part MIPJ. No condition. -/
import Derived.Test.YtibefgdjijmncaaMIPI
import Derived.SizedLaws
set_option linter.unusedVariables false
set_option linter.unusedSimpArgs false
section
namespace Go.Proofs.Ytibefgdjijmncaa
open Go.ChangeShapes Go.WideShapes Go.ChangeAt Go.RowKit Go.Deep
inductive ShR where
  | nil
  | int (k : IntKind) (r : ShR)
  | bool (r : ShR)
  | str (r : ShR)
  | sl (b : Nat) (e : ShR) (r : ShR)
def ShR.len : ShR → Nat
  | .nil => 0
  | .int _ r | .bool r | .str r | .sl _ _ r => r.len + 1
def ShR.app : ShR → ShR → ShR
  | .nil, b => b
  | .int k r, b => .int k (r.app b)
  | .bool r, b => .bool (r.app b)
  | .str r, b => .str (r.app b)
  | .sl q e r, b => .sl q e (r.app b)
def ShR.rep (a : ShR) : Nat → ShR
  | 0 => .nil
  | n + 1 => a.app (a.rep n)
def SlFitsR (w : World) (v : Value) (sz b : Nat) (F : List Value → Prop) : Prop :=
  SlFits w v sz F ∧ ∀ A n c, v = .slice A n c → n * b ≤ reachBytes
def ShR.fits (w : World) : ShR → List Value → Prop
  | .nil, cs => cs = []
  | .int k r, cs => ∃ n cs', cs = .int k n :: cs' ∧ (Lit.int k n).wf = true ∧ r.fits w cs'
  | .bool r, cs => ∃ b cs', cs = .bool b :: cs' ∧ r.fits w cs'
  | .str r, cs => ∃ s cs', cs = .string s :: cs' ∧ s.size ≤ reachBytes ∧ r.fits w cs'
  | .sl q e r, cs => ∃ v cs', cs = v :: cs' ∧ SlFitsR w v e.len q (e.fits w) ∧ r.fits w cs'
theorem ShR.fits_len {w : World} : ∀ {s : ShR} {cs : List Value}, s.fits w cs → cs.length = s.len
  | .nil, cs, h => by simp only [ShR.fits] at h; simp [h, ShR.len]
  | .int k r, cs, h => by obtain ⟨n, cs', rfl, _, h'⟩ := h; simp [ShR.len, ShR.fits_len h']
  | .bool r, cs, h => by obtain ⟨n, cs', rfl, h'⟩ := h; simp [ShR.len, ShR.fits_len h']
  | .str r, cs, h => by obtain ⟨n, cs', rfl, _, h'⟩ := h; simp [ShR.len, ShR.fits_len h']
  | .sl q e r, cs, h => by obtain ⟨n, cs', rfl, _, h'⟩ := h; simp [ShR.len, ShR.fits_len h']
theorem ShR.fits_app {w : World} {b : ShR} {ds : List Value} (hb : b.fits w ds) : ∀ {a : ShR} {cs : List Value}, a.fits w cs → (a.app b).fits w (cs ++ ds)
  | .nil, cs, h => by simp only [ShR.fits] at h; subst h; simpa [ShR.app] using hb
  | .int k r, cs, h => by obtain ⟨n, cs', rfl, h1, h'⟩ := h; exact ⟨n, cs' ++ ds, rfl, h1, ShR.fits_app hb h'⟩
  | .bool r, cs, h => by obtain ⟨n, cs', rfl, h'⟩ := h; exact ⟨n, cs' ++ ds, rfl, ShR.fits_app hb h'⟩
  | .str r, cs, h => by obtain ⟨n, cs', rfl, h1, h'⟩ := h; exact ⟨n, cs' ++ ds, rfl, h1, ShR.fits_app hb h'⟩
  | .sl q e r, cs, h => by obtain ⟨n, cs', rfl, h1, h'⟩ := h; exact ⟨n, cs' ++ ds, rfl, h1, ShR.fits_app hb h'⟩
theorem ShR.app_len : ∀ {a b : ShR}, (a.app b).len = a.len + b.len
  | .nil, b => by simp [ShR.app, ShR.len]
  | .int k r, b => by simp [ShR.app, ShR.len, ShR.app_len (a := r)]; omega
  | .bool r, b => by simp [ShR.app, ShR.len, ShR.app_len (a := r)]; omega
  | .str r, b => by simp [ShR.app, ShR.len, ShR.app_len (a := r)]; omega
  | .sl q e r, b => by simp [ShR.app, ShR.len, ShR.app_len (a := r)]; omega
section
variable (P : Program)
def shFieldsR (one : TypeId → Option ShR) : Nat → List Field → Option ShR
  | _, [] => some .nil
  | off, f :: fs => (one f.type).bind fun a => if f.offset = off ∧ P.cellsOf f.type = a.len then (shFieldsR one (off + a.len) fs).map (a.app ·) else none
def shOfR : Nat → TypeId → Option ShR
  | 0, _ => none
  | n + 1, t => match P.underlying t with
    | some .bool => some (.bool .nil)
    | some (.int k) => some (.int k .nil)
    | some .string => some (.str .nil)
    | some (.slice e) => (shOfR n e).bind fun a => if P.cellsOf e = a.len then some (.sl (P.bytesOf e) a .nil) else none
    | some (.struct fs) => (shFieldsR P (shOfR n) 0 fs.toList).bind fun a => if P.cellsOf t = a.len then some a else none
    | some (.array k e) => (shOfR n e).bind fun a => if P.cellsOf e = a.len ∧ P.cellsOf t = k * a.len then some (a.rep k) else none
    | _ => none
end
section
variable {P : Program} {H : Type} {enc : TypeId × Value → H} {w : World} {base : Nat} {spare : Nat → Bool} {held : Bool}
theorem weightsAll_mem {e : TypeId} : ∀ {l : List (DataW H)} {d : DataW H}, d ∈ l → ∀ {q : Nat}, q ∈ d.weights P e → q ∈ DataW.weightsAll P e l
  | [], d, h, q, hq => by simp at h
  | x :: l, d, h, q, hq => by
    simp only [DataW.weightsAll, List.mem_append]
    rcases List.mem_cons.1 h with rfl | h
    · exact .inl hq
    · exact .inr (weightsAll_mem h hq)
theorem fieldsR_fit {one : TypeId → Option ShR} {m : Nat} {cs : List Value} (ih : ∀ t sh ds x, one t = some sh → DataW.trod enc P w base spare held m t ds = some x → (∀ q ∈ x.1.weights P t, q ≤ reachBytes) → sh.fits w ds) :
    ∀ (fs : List Field) (off : Nat) (sh : ShR), shFieldsR P one off fs = some sh → (∀ f ∈ fs, ∃ y, DataW.trod enc P w base spare held m f.type ((cs.drop f.offset).take (P.cellsOf f.type)) = some y ∧ (∀ q ∈ y.1.weights P f.type, q ≤ reachBytes)) →
      cs.length = off + sh.len → sh.fits w (cs.drop off)
  | [], off, sh, h, _, hl => by
    simp only [shFieldsR, Option.some.injEq] at h
    subst h
    simp only [ShR.len, Nat.add_zero] at hl
    show cs.drop off = []
    rw [List.drop_eq_nil_iff]; omega
  | f :: fs, off, sh, h, hf, hl => by
    simp only [shFieldsR, Option.bind_eq_some_iff] at h
    obtain ⟨a, ha, h⟩ := h
    split at h
    · rename_i hc
      obtain ⟨ho, hk⟩ := hc
      simp only [Option.map_eq_some_iff] at h
      obtain ⟨b, hb, rfl⟩ := h
      rw [ShR.app_len] at hl
      obtain ⟨y, hy, hyw⟩ := hf f (by simp)
      rw [ho, hk] at hy
      have h1 := ih _ _ _ _ ha hy hyw
      have h2 := fieldsR_fit ih fs (off + a.len) b hb (fun g hg => hf g (by simp [hg])) (by omega)
      have e : cs.drop off = (cs.drop off).take a.len ++ cs.drop (off + a.len) := by
        rw [← List.drop_drop, List.take_append_drop]
      rw [e]
      exact ShR.fits_app h2 h1
    · cases h
theorem arrayR_fit {m : Nat} {cs : List Value} {e : TypeId} {a : ShR} (ih : ∀ ds x, DataW.trod enc P w base spare held m e ds = some x → (∀ q ∈ x.1.weights P e, q ≤ reachBytes) → a.fits w ds) :
    ∀ (k i : Nat), (∀ j, i ≤ j → j < i + k → ∃ y, DataW.trod enc P w base spare held m e ((cs.drop (j * a.len)).take a.len) = some y ∧ (∀ q ∈ y.1.weights P e, q ≤ reachBytes)) → cs.length = (i + k) * a.len → (a.rep k).fits w (cs.drop (i * a.len))
  | 0, i, _, hl => by
    show cs.drop _ = []
    rw [List.drop_eq_nil_iff]; simp at hl; omega
  | k + 1, i, hf, hl => by
    obtain ⟨y, hy, hyw⟩ := hf i (Nat.le_refl _) (by omega)
    have h1 := ih _ _ hy hyw
    have h2 := arrayR_fit ih k (i + 1) (fun j h1 h2 => hf j (by omega) (by omega)) (by rw [hl]; congr 1; omega)
    have e : cs.drop (i * a.len) = (cs.drop (i * a.len)).take a.len ++ cs.drop ((i + 1) * a.len) := by
      rw [Nat.add_mul, Nat.one_mul, ← List.drop_drop, List.take_append_drop]
    rw [e]
    exact ShR.fits_app h2 h1
theorem fitsR_of_trod : ∀ (n : Nat) (t : TypeId) (sh : ShR) (fuel : Nat) (cs : List Value) (x : DataW H × List MemPlace), shOfR P n t = some sh → DataW.trod enc P w base spare held fuel t cs = some x → (∀ q ∈ x.1.weights P t, q ≤ reachBytes) → sh.fits w cs
  | 0, _, _, _, _, _, h, _, _ => by simp [shOfR] at h
  | n + 1, t, sh, fuel, cs, x, h, ht, hz => by
    unfold shOfR at h
    split at h
    · rename_i hu
      obtain ⟨b, rfl, _⟩ := DataW.trod_bool hu ht
      simp only [Option.some.injEq] at h; subst h
      exact ⟨b, [], rfl, rfl⟩
    · rename_i k hu
      obtain ⟨z, rfl, _, hw⟩ := DataW.trod_int hu ht
      simp only [Option.some.injEq] at h; subst h
      exact ⟨z, [], rfl, hw, rfl⟩
    · rename_i hu
      obtain ⟨z, rfl, rfl, hw⟩ := DataW.trod_string hu ht
      simp only [Option.some.injEq] at h; subst h
      have hz1 := hz z.data.toList.length (by simp [DataW.weights])
      exact ⟨z, [], rfl, by rw [Array.length_toList] at hz1; exact hz1, rfl⟩
    · rename_i e hu
      simp only [Option.bind_eq_some_iff] at h
      obtain ⟨a, ha, h⟩ := h
      split at h
      · rename_i hc
        simp only [Option.some.injEq] at h; subst h
        rcases open_slice hu ht with ⟨rfl, _⟩ | ⟨ad, len, cap, m, f, D, Pl, rfl, _, hl, hm, hmm, rfl, hi⟩
        · exact ⟨_, [], rfl, ⟨⟨Option.none, 0, 0, rfl, Nat.le_refl _, Nat.zero_le _, fun _ => rfl, fun a ha => by cases ha⟩, fun A n c hv => by cases hv; omega⟩, rfl⟩
        · have hzl : len * P.bytesOf e ≤ reachBytes := by
            have h1 := hz ((((List.range len).map D).length + ((List.range (m - len)).map fun j => D (len + j)).length) * P.bytesOf e) (by simp [DataW.weights, hu])
            refine Nat.le_trans (Nat.mul_le_mul_right _ ?_) h1
            simp
          refine ⟨_, [], rfl, ⟨⟨some ad, len, cap, rfl, hl, hm, ?_, fun a' ha' i hilt => ?_⟩, fun A n c hv => by cases hv; exact hzl⟩, rfl⟩
          · intro h; cases h
          simp only [Option.some.injEq] at ha'
          subst ha'
          have him : i < m := by rw [hmm]; split <;> omega
          obtain ⟨cs', hc', ht'⟩ := hi i him
          obtain ⟨_, hlen, hget⟩ := World.cells?_some hc'
          rw [hc] at hlen hget
          refine ⟨cs', hlen, fun j u hj => ?_, fitsR_of_trod n e a f cs' _ ha ht' fun q hq => hz q ?_⟩
          rotate_left
          · simp only [DataW.weights, hu, List.mem_cons, List.mem_append]
            exact .inr (.inl (weightsAll_mem (List.mem_map.2 ⟨i, by simpa using hilt, rfl⟩) hq))
          have hjl : j < cs'.length := (List.getElem?_eq_some_iff.1 hj).1
          rw [hget j (by omega)]; exact hj
      · cases h
    · rename_i fs hu
      simp only [Option.bind_eq_some_iff] at h
      obtain ⟨a, ha, h⟩ := h
      split at h
      · rename_i hc
        simp only [Option.some.injEq] at h; subst h
        obtain ⟨xs, m, _, rfl, hl, hxl, hf⟩ := DataW.trod_struct hu ht
        have := fieldsR_fit (cs := cs) (m := m) (enc := enc) (base := base) (spare := spare) (held := held) (w := w) (fun t sh ds x h1 h2 h3 => fitsR_of_trod n t sh m ds x h1 h2 h3) fs.toList 0 a ha (fun f hf' => ?_) (by omega)
        · simpa using this
        · obtain ⟨i, hi, hfi⟩ := List.getElem_of_mem hf'
          have hfi' : fs[i]? = some f := by rw [← hfi, Array.getElem_toList, Array.getElem?_eq_getElem]
          have h3 := hf i f hfi'
          have hlt : i < xs.length := by rw [hxl]; simpa using hi
          refine ⟨xs[i], by rw [h3]; exact List.getElem?_eq_getElem hlt, fun q hq => hz q ?_⟩
          simp only [DataW.weights, hu]
          exact DataW.weights_mem_each (j := i) (t := f.type) (d := xs[i].1) (by simp [hfi']) (by simp [hlt]) q hq
      · cases h
    · rename_i k e hu
      simp only [Option.bind_eq_some_iff] at h
      obtain ⟨a, ha, h⟩ := h
      split at h
      · rename_i hc
        obtain ⟨hc1, hc2⟩ := hc
        simp only [Option.some.injEq] at h; subst h
        obtain ⟨xs, m, _, rfl, hl, hxl, hf⟩ := DataW.trod_array hu ht
        rw [hc1] at hf
        have := arrayR_fit (cs := cs) (m := m) (enc := enc) (base := base) (spare := spare) (held := held) (w := w) (P := P) (fun ds x h2 h3 => fitsR_of_trod n e a m ds x ha h2 h3) k 0 (fun j _ hj => ?_) (by rw [hl, hc2, Nat.zero_add])
        · simpa using this
        · have hlt : j < xs.length := by omega
          refine ⟨xs[j], by rw [hf j (by omega)]; exact List.getElem?_eq_getElem hlt, fun q hq => hz q ?_⟩
          simp only [DataW.weights, hu]
          exact weightsAll_mem (List.mem_map.2 ⟨xs[j], List.getElem_mem _, rfl⟩) hq
      · cases h
    · cases h
theorem openR_any {t : TypeId} {v : Value} {d : DataW H} {p : List MemPlace} {n : Nat} {sh : ShR} (hs : shOfR P n t = some sh) (h : DataW.Trod enc P w base spare held t v d p) (hz : ∀ q ∈ d.weights P t, q ≤ reachBytes) : sh.fits w v.cells.toList := by
  obtain ⟨fuel, hf⟩ := h
  exact fitsR_of_trod n t sh fuel _ _ hs hf hz
theorem openR_aggs {t : TypeId} {v : Value} {d : DataW H} {p : List MemPlace} {n b : Nat} {r : Reach} {sh : ShR} (hu : isAggT P t = true) (hs : shOfR P n t = some sh) (hv : Value.okWide P w r b t v) (h : DataW.Trod enc P w base spare held t v d p) (hz : ∀ q ∈ d.weights P t, q ≤ reachBytes) :
    ∃ cs : List Value, v = .agg cs.toArray ∧ sh.fits w cs := by
  have hf := openR_any hs h hz
  unfold Value.okWide at hv
  unfold isAggT at hu
  split at hv
  · obtain ⟨cs, rfl, _⟩ := hv
    exact ⟨cs.toList, by simp, hf⟩
  · obtain ⟨cs, rfl, _⟩ := hv
    exact ⟨cs.toList, by simp, hf⟩
  · split at hu <;> simp_all
theorem openR_sls {t e : TypeId} {v : Value} {d : DataW H} {p : List MemPlace} {n b : Nat} {r : Reach} {a : ShR} {y : Nat} (hu : P.underlying t = some (.slice e)) (hs : shOfR P n t = some (.sl y a .nil)) (hv : Value.okWide P w r b t v) (h : DataW.Trod enc P w base spare held t v d p) (hz : ∀ q ∈ d.weights P t, q ≤ reachBytes) :
    SlFitsR w v a.len y (a.fits w) := by
  have hf := openR_any hs h hz
  obtain ⟨A, l, c, rfl⟩ := okWide_slice hu hv
  obtain ⟨x, cs', he, hx, _⟩ := hf
  simp only [Value.cells, List.cons.injEq] at he
  rw [he.1]; exact hx
end
end Go.Proofs.Ytibefgdjijmncaa
end
