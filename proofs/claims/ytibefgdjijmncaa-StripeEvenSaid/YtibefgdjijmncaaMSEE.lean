/- Walks and plain facts for the law StripeEven, part MSEE. No condition. -/
import Derived.Test.YtibefgdjijmncaaMSED
import Derived.Test.YtibefgdjijmncaaMSEC
set_option linter.unusedVariables false
set_option linter.unusedSimpArgs false
section
namespace Go.Proofs.Ytibefgdjijmncaa
open Go.RowKit Sz
set_option maxHeartbeats 4000000
namespace St
def nG (g : Ge) : Int := g.ch * g.di * g.bl
def okB (g : Ge) (b : Int) : Bool := decide (0 ≤ b) && decide (b < nG g)
def laneB (g : Ge) (c : Nat) (b : Int) : Bool := okB g b && (b.tmod g.ch == (c : Int))
def lan (g : Ge) (S : List Int) (c : Nat) : List Int := S.filter (laneB g c)
def lanF (g : Ge) (S : List Int) (C : Nat) : List (List Int) := (List.range C).map (lan g S)
theorem lanF_len (g : Ge) (S : List Int) (C : Nat) : (lanF g S C).length = C := by simp [lanF]
theorem lanF_get {g : Ge} {S : List Int} {C c : Nat} (h : c < C) : (lanF g S C)[c]? = some (lan g S c) := by
  unfold lanF
  rw [List.getElem?_map, List.getElem?_range h]
  rfl
theorem lan_snoc (g : Ge) (S : List Int) (b : Int) (c : Nat) : lan g (S ++ [b]) c = lan g S c ++ (if laneB g c b = true then [b] else []) := by
  unfold lan
  rw [List.filter_append]
  congr 1
  by_cases h : laneB g c b = true
  · simp [h]
  · simp [h]
theorem lanF_no {g : Ge} {S : List Int} {b : Int} {C : Nat} (h : okB g b = false) : lanF g (S ++ [b]) C = lanF g S C := by
  unfold lanF
  apply List.map_congr_left
  intro c _
  rw [lan_snoc]
  have : laneB g c b = false := by unfold laneB; rw [h]; rfl
  simp [this]
theorem lanF_at {g : Ge} {S : List Int} {b : Int} {C c : Nat} (h : okB g b = true) (hc : b.tmod g.ch = (c : Int)) : lanF g (S ++ [b]) C = (lanF g S C).set c (lan g S c ++ [b]) := by
  apply List.ext_getElem?
  intro i
  rw [List.getElem?_set]
  rcases Nat.lt_or_ge i C with hi | hi
  · rw [lanF_get hi, lan_snoc]
    by_cases e : c = i
    · subst e
      have : laneB g c b = true := by unfold laneB; rw [h, hc]; simp
      rw [if_pos this, if_pos rfl, if_pos (by rw [lanF_len]; exact hi)]
    · have : laneB g i b = false := by
        unfold laneB
        rw [h, hc]
        simp
        omega
      rw [if_neg e, lanF_get hi]
      simp [this]
  · rw [List.getElem?_eq_none (by rw [lanF_len]; exact hi)]
    by_cases e : c = i
    · subst e
      rw [if_pos rfl, if_neg (by rw [lanF_len]; omega)]
    · rw [if_neg e, List.getElem?_eq_none (by rw [lanF_len]; exact hi)]
theorem lanF_nil (g : Ge) (C : Nat) : lanF g [] C = List.replicate C [] := by
  apply List.ext_getElem?
  intro i
  rcases Nat.lt_or_ge i C with hi | hi
  · rw [lanF_get hi, List.getElem?_replicate, if_pos hi]; rfl
  · rw [List.getElem?_eq_none (by rw [lanF_len]; exact hi), List.getElem?_eq_none (by simp; exact hi)]
def lanC (j : Nat) (L : List (List Int)) : List SV := L.mapIdx fun c l => oV (c + j) 1 l.length
def lanO (L : List (List Int)) : Mem := L.map fun l => oO (iL l)
theorem lanC_len (j : Nat) (L : List (List Int)) : (lanC j L).length = L.length := by simp [lanC]
theorem lanO_len (L : List (List Int)) : (lanO L).length = L.length := by simp [lanO]
theorem lanC_get {j c : Nat} {L : List (List Int)} {l : List Int} (h : L[c]? = some l) : (lanC j L)[c]? = some (oV (c + j) 1 l.length) := by
  unfold lanC
  rw [List.getElem?_mapIdx, h]
  rfl
theorem lanO_get {c : Nat} {L : List (List Int)} {l : List Int} (h : L[c]? = some l) : (lanO L)[c]? = some (oO (iL l)) := by
  unfold lanO
  rw [List.getElem?_map, h]
  rfl
theorem lanC_rep (j C : Nat) : lanC j (List.replicate C []) = List.replicate C (.v (.slice none 0 0)) := by
  apply List.ext_getElem?
  intro i
  rcases Nat.lt_or_ge i C with hi | hi
  · rw [lanC_get (l := []) (by rw [List.getElem?_replicate, if_pos hi]), List.getElem?_replicate, if_pos hi]
    rw [List.length_nil, oV_0]
  · rw [List.getElem?_eq_none (by rw [lanC_len]; simpa using hi), List.getElem?_eq_none (by simpa using hi)]
theorem LeL_of {g : List Nat} : ∀ {cs ds : List SV}, cs.length = ds.length → (∀ (i : Nat) (c d : SV), cs[i]? = some c → ds[i]? = some d → Le g c d) → LeL g cs ds
  | [], [], _, _ => rfl
  | c :: cs, d :: ds, hl, h => by
    simp only [LeL]
    exact ⟨h 0 c d rfl rfl, LeL_of (by simpa using hl) fun i c' d' a b => h (i + 1) c' d' (by simpa using a) (by simpa using b)⟩
theorem lanC_le {g : List Nat} {j k : Nat} {L : List (List Int)} (h : ∀ (c : Nat) (l : List Int), L[c]? = some l → l ≠ [] → g[c + j]? = some (c + k)) : LeL g (lanC j L) (lanC k L) := by
  refine LeL_of (by rw [lanC_len, lanC_len]) fun i c d h1 h2 => ?_
  unfold lanC at h1 h2
  rw [List.getElem?_mapIdx] at h1 h2
  obtain ⟨l, hl, rfl⟩ := Option.map_eq_some_iff.1 h1
  rw [hl] at h2
  injection h2 with h2
  subst h2
  rw [o_le]
  by_cases e : l = []
  · left; simp [e]
  · exact .inr (h i l hl e)
theorem lanC_le_set {g : List Nat} {j c e : Nat} {L : List (List Int)} {l : List Int} (hc : c < L.length) (hl : l ≠ []) (hg : g[c + j]? = some e) (h : ∀ (i : Nat) (x : List Int), i ≠ c → L[i]? = some x → x ≠ [] → g[i + j]? = some (i + j)) :
    LeL g (lanC j (L.set c l)) ((lanC j L).set c (.row e 0 l.length 1)) := by
  refine LeL_of (by rw [lanC_len, List.length_set, List.length_set, lanC_len]) fun i x d h1 h2 => ?_
  rw [List.getElem?_set] at h2
  by_cases e1 : c = i
  · subst e1
    rw [if_pos rfl, if_pos (by rw [lanC_len]; exact hc)] at h2
    injection h2 with h2
    subst h2
    rw [lanC_get (l := l) (by rw [List.getElem?_set]; simp [hc])] at h1
    injection h1 with h1
    subst h1
    have : l.length ≠ 0 := by simpa using hl
    unfold oV
    rw [if_neg this]
    simp only [Le, hg]
  · rw [if_neg e1] at h2
    unfold lanC at h1 h2
    rw [List.getElem?_mapIdx] at h1 h2
    rw [List.getElem?_set_ne e1] at h1
    obtain ⟨y, hy, rfl⟩ := Option.map_eq_some_iff.1 h1
    rw [hy] at h2
    injection h2 with h2
    subst h2
    rw [o_le]
    by_cases e2 : y = []
    · left; simp [e2]
    · exact .inr (h i y (fun q => e1 q.symm) hy e2)
theorem NdL_al : ∀ {g : List Nat} {m : Mem}, (∀ (i j k : Nat) (o o' : SObj), i < j → g[i]? = some k → g[j]? = some k → m[i]? = some o → m[j]? = some o' → (o.own = false ∧ o.cells = []) ∨ (o'.own = false ∧ o'.cells = [])) → NdL g m
  | [], m, _ => by simp [NdL]
  | _ :: _, [], _ => by simp [NdL]
  | k :: ks, o :: m, h => by
    refine ⟨?_, NdL_al fun i j k' a b hij h1 h2 h3 h4 => h (i + 1) (j + 1) k' a b (by omega) (by simpa using h1) (by simpa using h2) (by simpa using h3) (by simpa using h4)⟩
    have : ∀ (ks : List Nat) (m : Mem), (∀ (j : Nat) (o' : SObj), ks[j]? = some k → m[j]? = some o' → (o.own = false ∧ o.cells = []) ∨ (o'.own = false ∧ o'.cells = [])) → NdA k o ks m := by
      intro ks
      induction ks with
      | nil => intro m _; simp [NdA]
      | cons k' ks ih =>
        intro m hm
        cases m with
        | nil => simp [NdA]
        | cons o' m =>
          refine ⟨?_, ih m fun j o2 h1 h2 => hm (j + 1) o2 (by simpa using h1) (by simpa using h2)⟩
          by_cases e : k = k'
          · subst e
            exact .inr (hm 0 o' rfl rfl)
          · exact .inl e
    exact this ks m fun j o' h1 h2 => h 0 (j + 1) k o o' (by omega) rfl (by simpa using h1) rfl (by simpa using h2)
theorem FitM_app {g : List Nat} {m : Mem} : ∀ {ks : List Nat} {m1 : Mem} {ts : List Nat} {m2 : Mem}, FitM g m ks m1 → FitM g m ts m2 → FitM g m (ks ++ ts) (m1 ++ m2)
  | [], [], ts, m2, _, h2 => h2
  | k :: ks, o :: m1, ts, m2, h1, h2 => ⟨h1.1, FitM_app h1.2 h2⟩
  | [], _ :: _, _, _, h1, _ => h1.elim
  | _ :: _, [], _, _, h1, _ => h1.elim
theorem lanO_fit {G ts : List Nat} {m : Mem} {L : List (List Int)} (hts : ts.length = L.length) (h : ∀ (c : Nat) (l : List Int), L[c]? = some l → ∃ k o, ts[c]? = some k ∧ m[k]? = some o ∧ (l ≠ [] → o = ⟨true, iL l⟩)) : FitM G m ts (lanO L) := by
  refine FitM_of (by rw [hts, lanO_len]) fun j k o' hk ho => ?_
  unfold lanO at ho
  rw [List.getElem?_map] at ho
  obtain ⟨l, hl, rfl⟩ := Option.map_eq_some_iff.1 ho
  obtain ⟨k', o, h1, h2, h3⟩ := h j l hl
  rw [hk] at h1
  injection h1 with h1
  subst h1
  refine ⟨o, h2, ?_⟩
  by_cases e : l = []
  · subst e
    exact .inl rfl
  · rw [h3 e]
    refine .inr ⟨fun _ => rfl, ?_, trivial⟩
    show LeL G (iL l) (iL l)
    rw [iL_le]
    trivial
theorem lanNd {hs ts : List Nat} {heads : Mem} {L : List (List Int)} {φ : Nat → Nat} (hh : hs.length = heads.length) (hn : hs.Nodup)
    (hφ : ∀ (c : Nat) (l : List Int), L[c]? = some l → l ≠ [] → ts[c]? = some (φ c) ∧ φ c ∉ hs)
    (h2 : ∀ (i j : Nat) (x y : List Int), i < j → L[i]? = some x → L[j]? = some y → x ≠ [] → y ≠ [] → φ i ≠ φ j) : NdL (hs ++ ts) (heads ++ lanO L) := by
  have tail : ∀ (j k : Nat) (o : SObj), hs.length ≤ j → (hs ++ ts)[j]? = some k → (heads ++ lanO L)[j]? = some o → (o.own = false ∧ o.cells = []) ∨ ∃ l, L[j - hs.length]? = some l ∧ l ≠ [] ∧ k = φ (j - hs.length) := by
    intro j k o hj h1 h2
    rw [List.getElem?_append_right hj] at h1
    rw [List.getElem?_append_right (by omega), ← hh] at h2
    unfold lanO at h2
    rw [List.getElem?_map] at h2
    obtain ⟨l, hl, rfl⟩ := Option.map_eq_some_iff.1 h2
    by_cases e : l = []
    · subst e
      exact .inl ⟨rfl, rfl⟩
    · refine .inr ⟨l, hl, e, ?_⟩
      rw [(hφ _ l hl e).1] at h1
      injection h1 with h1
      exact h1.symm
  refine NdL_al fun i j k o o' hij h1 h3 h4 h5 => ?_
  rcases Nat.lt_or_ge j hs.length with hj | hj
  · exfalso
    rw [List.getElem?_append_left (by omega)] at h1
    rw [List.getElem?_append_left hj] at h3
    have hi' : i < hs.length := by omega
    rw [List.getElem?_eq_getElem hi'] at h1
    rw [List.getElem?_eq_getElem hj] at h3
    injection h1 with h1
    injection h3 with h3
    exact absurd (h1.trans h3.symm) (fun q => by have := (List.getElem_inj hn).1 q; omega)
  · rcases tail j k o' hj h3 h5 with h | ⟨y, hy, hye, hky⟩
    · exact .inr h
    · rcases Nat.lt_or_ge i hs.length with hi | hi
      · exfalso
        rw [List.getElem?_append_left hi] at h1
        exact (hφ _ y hy hye).2 (hky ▸ List.mem_of_getElem? h1)
      · rcases tail i k o hi h1 h4 with h | ⟨x, hx, hxe, hkx⟩
        · exact .inl h
        · exact (h2 _ _ x y (by omega) hx hy hxe hye (hkx ▸ hky)).elim
def tsU (j C c e : Nat) : List Nat := (List.range C).map fun i => if i = c then e else i + j
theorem tsU_len (j C c e : Nat) : (tsU j C c e).length = C := by simp [tsU]
theorem tsU_get {j C c e i : Nat} (h : i < C) : (tsU j C c e)[i]? = some (if i = c then e else i + j) := by
  unfold tsU
  rw [List.getElem?_map, List.getElem?_range h]
  rfl
def tsI (j C : Nat) : List Nat := (List.range C).map fun i => i + j
theorem tsI_len (j C : Nat) : (tsI j C).length = C := by simp [tsI]
theorem tsI_get {j C i : Nat} (h : i < C) : (tsI j C)[i]? = some (i + j) := by
  unfold tsI
  rw [List.getElem?_map, List.getElem?_range h]
  rfl
theorem some_lt {α : Type} {L : List α} {i : Nat} {x : α} (h : L[i]? = some x) : i < L.length := (List.getElem?_eq_some_iff.1 h).1
theorem fitH [J : Inp] (hJ : J.keep = 0) {e : Env} {m : Mem} {env : List (Nat × SV)} {L : List (List Int)} {ts hs : List Nat} {heads : Mem} {φ : Nat → Nat} (hn : hs.Nodup) (hh : hs.length = heads.length) (hts : ts.length = L.length)
    (hA : ∀ (c : Nat) (l : List Int), L[c]? = some l → ∃ k o, ts[c]? = some k ∧ m[k]? = some o ∧ (l ≠ [] → o = ⟨true, iL l⟩ ∧ k = φ c ∧ k ∉ hs))
    (h2 : ∀ (i j : Nat), i < j → j < L.length → φ i ≠ φ j) (hM : FitM (hs ++ ts) m hs heads) (hE : FitE (hs ++ ts) e env) : Fit e m env (heads ++ lanO L) :=
  ⟨hs ++ ts, lanNd hh hn (φ := φ) (fun c l hl hne => by
    obtain ⟨k, o, a1, a2, a3⟩ := hA c l hl
    obtain ⟨_, rfl, h3⟩ := a3 hne
    exact ⟨a1, h3⟩) fun i j x y hij hx hy _ _ => h2 i j hij (some_lt hy), FitM_app hM (lanO_fit hts fun c l hl => by
    obtain ⟨k, o, a1, a2, a3⟩ := hA c l hl
    exact ⟨k, o, a1, a2, fun h => (a3 h).1⟩), hE, keep0 hJ⟩
theorem fitU [J : Inp] (hJ : J.keep = 0) {e : Env} {env : List (Nat × SV)} {L : List (List Int)} {l : List Int} {C c0 n : Nat} {gO zO p1 p2 : SObj} (ogO : ∀ G, ObLe G gO gO) (ozO : ∀ G, ObLe G zO zO) (hL : L.length = C) (hc : c0 < C) (hl : l ≠ []) (hn : n = l.length)
    (hE : FitE ([0, 1, 2] ++ tsU 3 C c0 (C + 5)) e env) :
    Fit e (gO :: ⟨true, (lanC 3 L).set c0 (.row (C + 5) 0 n 1)⟩ :: zO :: ((lanO L).set c0 ⟨false, []⟩ ++ [p1, p2, ⟨true, iL l⟩])) env (gO :: ⟨true, lanC 3 (L.set c0 l)⟩ :: zO :: lanO (L.set c0 l)) := by
  subst hn
  have hTl : (lanO L).length = C := by rw [lanO_len, hL]
  have hlen : (L.set c0 l).length = C := by rw [List.length_set, hL]
  refine fitH hJ (ts := tsU 3 C c0 (C + 5)) (hs := [0, 1, 2]) (heads := [gO, ⟨true, lanC 3 (L.set c0 l)⟩, zO]) (φ := fun i => if i = c0 then C + 5 else i + 3) (by decide) rfl (by rw [tsU_len, hlen]) (fun c x hx => ?_) (fun i j hij hj => ?_) ?_ hE
  · have hcC : c < C := by have := some_lt hx; omega
    rw [tsU_get hcC]
    by_cases e1 : c = c0
    · subst e1
      rw [List.getElem?_set, if_pos rfl, if_pos (by omega)] at hx
      injection hx with hx
      subst hx
      refine ⟨C + 5, ⟨true, iL l⟩, by rw [if_pos rfl], ?_, fun _ => ⟨rfl, by rw [if_pos rfl], by simp only [List.mem_cons, List.mem_nil_iff, or_false]; omega⟩⟩
      show ((lanO L).set c ⟨false, []⟩ ++ [p1, p2, ⟨true, iL l⟩])[C + 2]? = _
      rw [List.getElem?_append_right (by simp [hTl]), List.length_set, hTl, show C + 2 - C = 2 by omega]
      rfl
    · rw [List.getElem?_set_ne (fun q => e1 q.symm)] at hx
      refine ⟨c + 3, oO (iL x), by rw [if_neg e1], ?_, fun hne => ⟨?_, by rw [if_neg e1], by simp only [List.mem_cons, List.mem_nil_iff, or_false]; omega⟩⟩
      · show ((lanO L).set c0 ⟨false, []⟩ ++ [p1, p2, ⟨true, iL l⟩])[c]? = _
        rw [List.getElem?_append_left (by simp [hTl]; exact hcC), List.getElem?_set_ne (fun q => e1 q.symm), lanO_get hx]
      · unfold oO
        have : (iL x).isEmpty = false := by
          cases x with
          | nil => exact (hne rfl).elim
          | cons a x => rfl
        rw [this]; rfl
  · have hjC : j < C := by omega
    show (if i = c0 then C + 5 else i + 3) ≠ (if j = c0 then C + 5 else j + 3)
    split <;> split <;> omega
  · simp only [FitM, List.getElem?_cons_zero, List.getElem?_cons_succ]
    refine ⟨ogO _, .inr ⟨fun h => h, ?_, trivial⟩, ozO _, trivial⟩
    refine lanC_le_set (by omega) hl ?_ fun i x hi hx hne => ?_
    · show (0 :: 1 :: 2 :: tsU 3 C c0 (C + 5))[c0 + 3]? = _
      simp only [List.getElem?_cons_succ]
      rw [tsU_get hc, if_pos rfl]
    · have hiC : i < C := by have := some_lt hx; omega
      show (0 :: 1 :: 2 :: tsU 3 C c0 (C + 5))[i + 3]? = _
      simp only [List.getElem?_cons_succ]
      rw [tsU_get hiC, if_neg hi]
theorem fitS [J : Inp] (hJ : J.keep = 0) {e : Env} {env : List (Nat × SV)} {L : List (List Int)} {C : Nat} {gO zO : SObj} {suf : Mem} (ogO : ∀ G, ObLe G gO gO) (ozO : ∀ G, ObLe G zO zO) (hL : L.length = C)
    (hE : FitE ([0, 1, 2] ++ tsI 3 C) e env) :
    Fit e (gO :: ⟨true, lanC 3 L⟩ :: zO :: (lanO L ++ suf)) env (gO :: ⟨true, lanC 3 L⟩ :: zO :: lanO L) := by
  have hTl : (lanO L).length = C := by rw [lanO_len, hL]
  refine fitH hJ (ts := tsI 3 C) (hs := [0, 1, 2]) (heads := [gO, ⟨true, lanC 3 L⟩, zO]) (φ := fun i => i + 3) (by decide) rfl (by rw [tsI_len, hL]) (fun c x hx => ?_) (fun i j hij hj => by omega) ?_ hE
  · have hcC : c < C := by have := some_lt hx; omega
    rw [tsI_get hcC]
    refine ⟨c + 3, oO (iL x), rfl, ?_, fun hne => ⟨?_, rfl, by simp only [List.mem_cons, List.mem_nil_iff, or_false]; omega⟩⟩
    · show (lanO L ++ suf)[c]? = _
      rw [List.getElem?_append_left (by omega), lanO_get hx]
    · unfold oO
      have : (iL x).isEmpty = false := by
        cases x with
        | nil => exact (hne rfl).elim
        | cons a x => rfl
      rw [this]; rfl
  · simp only [FitM, List.getElem?_cons_zero, List.getElem?_cons_succ]
    refine ⟨ogO _, .inr ⟨fun h => h, ?_, trivial⟩, ozO _, trivial⟩
    refine lanC_le fun i x hx hne => ?_
    have hiC : i < C := by have := some_lt hx; omega
    show (0 :: 1 :: 2 :: tsI 3 C)[i + 3]? = _
    simp only [List.getElem?_cons_succ]
    rw [tsI_get hiC]
theorem oV_up {d k z n : Nat} : (oV k z n).up d = oV (d + k) z n := by
  unfold oV
  split <;> rfl
theorem upL_map (d : Nat) : ∀ (cs : List SV), upL d cs = cs.map (SV.up d)
  | [] => by simp [upL]
  | c :: cs => by simp only [upL, List.map_cons, upL_map d cs]
theorem lanC_up {d j : Nat} {L : List (List Int)} : upL d (lanC j L) = lanC (d + j) L := by
  rw [upL_map]
  apply List.ext_getElem?
  intro i
  unfold lanC
  rw [List.getElem?_map, List.getElem?_mapIdx, List.getElem?_mapIdx]
  cases L[i]? with
  | none => rfl
  | some l =>
    simp only [Option.map_some]
    rw [oV_up, show d + (i + j) = i + (d + j) by omega]
theorem lanO_up {d : Nat} {L : List (List Int)} : (lanO L).map (SObj.up d) = lanO L := by
  unfold lanO
  rw [List.map_map]
  apply List.map_congr_left
  intro l _
  show SObj.up d (oO (iL l)) = oO (iL l)
  unfold SObj.up oO
  simp only [iL_up]
theorem lanO_own {L : List (List Int)} : ∀ o ∈ lanO L, o.own = true ∨ (o.own = false ∧ o.cells = []) := fun o ho => by
  obtain ⟨l, _, rfl⟩ := List.mem_map.1 ho
  cases l with
  | nil => exact .inr ⟨rfl, rfl⟩
  | cons a l => exact .inl rfl
theorem lanEnd {m m' : Mem} {k : SV → Mem → Prop} {L : List (List Int)} {C : Nat} {ts : List Nat} (hL : L.length = C) (hts : ts.length = C) (h1 : m'[1]? = some ⟨true, lanC 3 L⟩)
    (hA : ∀ (c : Nat) (l : List Int), L[c]? = some l → ∃ q o, ts[c]? = some q ∧ m'[q]? = some o ∧ (l ≠ [] → o = ⟨true, iL l⟩ ∧ q = c + 3)) (hk : k (.row m.length 0 C 1) (m ++ ⟨true, lanC (m.length + 1) L⟩ :: lanO L)) :
    ∃ (g2 : List Nat) (s2 : SV) (m2 : Mem), NdL g2 m2 ∧ FitM g2 m' g2 m2 ∧ (∀ o ∈ m2, o.own = true ∨ (o.own = false ∧ o.cells = [])) ∧ Le g2 s2 (.row 1 0 C 1) ∧ k (s2.up m.length) (m ++ m2.map (SObj.up m.length)) := by
  refine ⟨[1] ++ ts, .row 0 0 C 1, [⟨true, lanC 1 L⟩] ++ lanO L, lanNd rfl (by decide) (φ := fun c => c + 3) (fun c l hl hne => ?_) (fun i j x y hij _ _ _ _ => by show i + 3 ≠ j + 3; omega), FitM_app ?_ (lanO_fit (by rw [hts, hL]) fun c l hl => ?_), fun o ho => ?_, ?_, ?_⟩
  · obtain ⟨q, o, a1, a2, a3⟩ := hA c l hl
    obtain ⟨_, rfl⟩ := a3 hne
    exact ⟨a1, by simp only [List.mem_cons, List.mem_nil_iff, or_false]; omega⟩
  · simp only [FitM, h1]
    refine ⟨.inr ⟨fun h => h, lanC_le fun c l hl hne => ?_, trivial⟩, trivial⟩
    obtain ⟨q, o, a1, a2, a3⟩ := hA c l hl
    obtain ⟨_, rfl⟩ := a3 hne
    show (1 :: ts)[c + 1]? = _
    rw [List.getElem?_cons_succ, a1]
  · obtain ⟨q, o, a1, a2, a3⟩ := hA c l hl
    exact ⟨q, o, a1, a2, fun h => (a3 h).1⟩
  · rcases List.mem_cons.1 ho with rfl | ho
    · exact .inl rfl
    · exact lanO_own o ho
  · show Le (1 :: ts) (.row 0 0 C 1) (.row 1 0 C 1)
    simp only [Le, List.getElem?_cons_zero]
  · have e : (([⟨true, lanC 1 L⟩] : Mem) ++ lanO L).map (SObj.up m.length) = (⟨true, lanC (m.length + 1) L⟩ : SObj) :: lanO L := by
      rw [List.map_append, lanO_up]
      show [SObj.up m.length ⟨true, lanC 1 L⟩] ++ lanO L = _
      unfold SObj.up
      simp only [lanC_up]
      rfl
    rw [e]
    have e2 : (SV.row 0 0 C 1).up m.length = .row m.length 0 C 1 := by simp [SV.up]
    rw [e2]
    exact hk
end St
end Go.Proofs.Ytibefgdjijmncaa
end
section
namespace Go.Proofs.Ytibefgdjijmncaa.Sz
open Go.RowKit
variable {P : Program} {f : FuncId} {eff : List FuncId} {N : Nat} {x : XC} {rs : List XR}
theorem St.join3 [Inp] {base : Nat → Prop} {w0 W W1 : World} {r r2 : List Loc} {m m2 : Mem} (hst : St base w0 r m W) (h2 : St (fun k => W.heap.size ≤ k) W r2 m2 W1) (hown : ∀ o ∈ m2, o.own = true ∨ (o.own = false ∧ o.cells = [])) : St base w0 (r ++ r2) (m ++ m2.map (SObj.up r.length)) W1 := by
  have hb : Below W.heap.size W W1 := h2.low.below
  have h1 := hst.below hb
  have split : ∀ (k : Nat) (l : Loc) (o : SObj), (r ++ r2)[k]? = some l → (m ++ m2.map (SObj.up r.length))[k]? = some o → (k < r.length ∧ r[k]? = some l ∧ m[k]? = some o) ∨ (r.length ≤ k ∧ r2[k - r.length]? = some l ∧ ∃ o2, m2[k - r.length]? = some o2 ∧ o = o2.up r.length) := by
    intro k l o hl ho
    rcases Nat.lt_or_ge k r.length with hk | hk
    · exact .inl ⟨hk, by rwa [List.getElem?_append_left hk] at hl, by rwa [List.getElem?_append_left (by rw [← hst.len]; exact hk)] at ho⟩
    · rw [List.getElem?_append_right hk] at hl
      rw [List.getElem?_append_right (by rw [← hst.len]; exact hk), ← hst.len, List.getElem?_map] at ho
      obtain ⟨o2, q1, q2⟩ := Option.map_eq_some_iff.1 ho
      exact .inr ⟨hk, hl, o2, q1, q2.symm⟩
  have new_ge : ∀ (k : Nat) (l : Loc) (o : SObj), r2[k]? = some l → m2[k]? = some o → ((o.up r.length).own = true ∨ (o.up r.length).cells ≠ []) → W.heap.size ≤ l.blk := fun k l o q1 q2 hal => (h2.obj k l o q1 q2).own (by
    rcases hown o (List.mem_of_getElem? q2) with h | ⟨h, hc⟩
    · exact h
    · rcases hal with hal | hal
      · simp only [SObj.up] at hal; rw [h] at hal; cases hal
      · exact (hal (by simp only [SObj.up, hc, upL])).elim)
  obtain ⟨F, hF⟩ := hst.hid
  obtain ⟨F2, hF2⟩ := h2.hid
  refine ⟨h1.low, h1.from_, h1.inp, by simp [hst.len, h2.len], fun k l o q1 q2 => ?_, fun k k' l l' o o' q1 q2 q3 q4 hne ho hal => ?_, fun k => if k < r.length then F k else F2 (k - r.length), fun k l o q1 q2 => ?_, fun k b hb' => ?_, fun k b hb' k' l o q1 q2 hal => ?_, fun k k' b hb1 hb2 => ?_⟩
  · rcases split k l o q1 q2 with ⟨_, p1, p2⟩ | ⟨_, p1, o2, p2, rfl⟩
    · exact (h1.obj k l o p1 p2).grow r2
    · obtain ⟨g1, g5, g6, g7, g8⟩ := h2.obj _ l o2 p1 p2
      refine ⟨fun hm hal => ?_, by simp only [SObj.up, upL_len]; exact g5, fun h => hst.from_ _ (Nat.le_trans hst.low.size (g6 h)), g7, g8.up⟩
      obtain ⟨c, T, fr, g1, g2, g3, g4⟩ := g1 (by rw [isM_up] at hm; exact hm) (by
        rcases hal with h | h
        · exact .inl h
        · exact .inr fun e => h (by simp only [SObj.up, e, upL]))
      refine ⟨c, T, fr, g1, g2, ?_, g4⟩
      simp only [SObj.up, upL_len]
      exact upL_is g3
  · rcases split k l o q1 q3 with ⟨a1, p1, p2⟩ | ⟨a1, p1, o2, p2, rfl⟩ <;> rcases split k' l' o' q2 q4 with ⟨b1, p3, p4⟩ | ⟨b1, p3, o3, p4, rfl⟩
    · exact h1.sep k k' l l' o o' p1 p3 p2 p4 hne ho hal
    · have := new_ge _ l' o3 p3 p4 hal
      have := hst.locs l (List.mem_of_getElem? p1)
      omega
    · have := new_ge _ l o2 p1 p2 (.inl ho)
      have := hst.locs l' (List.mem_of_getElem? p3)
      omega
    · refine h2.sep _ _ l l' o2 o3 p1 p3 p2 p4 (by omega) ho ?_
      rcases hal with h | h
      · exact .inl h
      · refine .inr fun e => h ?_
        simp only [SObj.up, e, upL]
  · rcases split k l o q1 q2 with ⟨a1, p1, p2⟩ | ⟨a1, p1, o2, p2, rfl⟩
    · simp only [if_pos a1]
      refine HidIs.grow ?_ r2
      cases ha : o.isA with
      | false => exact HidIs.not ha
      | true =>
        refine (hF.is k l o p1 p2).same hb.size fun b hb' => ?_
        rcases List.mem_cons.1 hb' with rfl | hb'
        · exact hb.block _ (hst.locs l (List.mem_of_getElem? p1))
        · exact hb.block _ (hF.base k b hb').2
    · simp only [if_neg (show ¬ k < r.length by omega)]
      exact (hF2.is _ l o2 p1 p2).up
  · split at hb'
    · exact ⟨(hF.base k b hb').1, Nat.lt_of_lt_of_le (hF.base k b hb').2 hb.size⟩
    · have := hF2.base _ b hb'
      exact ⟨hst.from_ _ (Nat.le_trans hst.low.size this.1), this.2⟩
  · rcases split k' l o q1 q2 with ⟨a1, p1, p2⟩ | ⟨a1, p1, o2, p2, rfl⟩
    · split at hb'
      · exact hF.far k b hb' k' l o p1 p2 hal
      · have := (hF2.base _ b hb').1
        have := hst.locs l (List.mem_of_getElem? p1)
        omega
    · split at hb'
      · have := (hF.base _ b hb').2
        have := new_ge _ l o2 p1 p2 hal
        omega
      · refine hF2.far _ b hb' _ l o2 p1 p2 ?_
        rcases hal with h | h
        · exact .inl h
        · refine .inr fun e => h ?_
          simp only [SObj.up, e, upL]
  · split at hb1
    · split at hb2
      · exact hF.apart k k' b hb1 hb2
      · have := (hF.base _ b hb1).2
        have := (hF2.base _ b hb2).1
        omega
    · split at hb2
      · have := (hF.base _ b hb2).2
        have := (hF2.base _ b hb1).1
        omega
      · have := hF2.apart _ _ b hb1 hb2
        omega
theorem St.join4 (I J : Inp) {base : Nat → Prop} {w0 W W1 : World} {r r2 : List Loc} {m m2 : Mem} (hst : @St I base w0 r m W) (h2 : @St J (fun k => W.heap.size ≤ k) W r2 m2 W1) (hown : ∀ o ∈ m2, o.own = true ∨ (o.own = false ∧ o.cells = [])) : @St I base w0 (r ++ r2) (m ++ m2.map (SObj.up r.length)) W1 :=
  @St.join3 I _ _ _ _ _ _ _ _ hst (@St.mk I _ _ _ _ _ (@St.low J _ _ _ _ _ h2) (fun _ h => h) (fun a u ha => ⟨by have := cell_lt (@St.inp_at _ _ _ _ _ I hst _ _ ha); omega, @St.inp_at _ _ _ _ _ I hst _ _ ha⟩) (@St.len J _ _ _ _ _ h2) (@St.obj J _ _ _ _ _ h2) (@St.sep J _ _ _ _ _ h2) (@St.hid J _ _ _ _ _ h2)) hown
theorem Contract.readF3 [I : Inp] (hF : FnX P f eff N x rs) {G : Inp → List CEntry} (hG : ∀ J, @GOk J P (G J)) (tr : Trans)
    (body : ∀ args m k, tr args m k → args.length ≤ N ∧ ∀ (J : Inp), J.keep = 0 → ∀ (us : List Value), KnowsL I J m args us → @evX J P N eff (G J) x (slots (argSlots 0 (us.map SV.of))) [] (fun ex e m' => EndsX ex ∧ evR rs e m' fun s => ∃ (g2 : List Nat) (s2 : SV) (m2 : Mem), NdL g2 m2 ∧ FitM g2 m' g2 m2 ∧ (∀ o ∈ m2, o.own = true ∨ (o.own = false ∧ o.cells = [])) ∧ Le g2 s2 s ∧ k (s2.up m.length) (m ++ m2.map (SObj.up m.length)))) : Contract P f true tr := by
  refine ⟨hF.enter, fun args m k base w0 W r vs ht hst ha => ?_⟩
  obtain ⟨hlen, hev⟩ := body args m k ht
  have hk := knowsL_of hst ha
  have hvl := IsL_len ha
  refine (@FnX.calls P f eff N x rs (G (inpOf W)) (inpOf W) hF (hG (inpOf W)) _ _ _ _ _ _ _ (St.inpOf W) (isL_of vs) (by simp; omega) (fun s m' => ∃ (g2 : List Nat) (s2 : SV) (m2 : Mem), NdL g2 m2 ∧ FitM g2 m' g2 m2 ∧ (∀ o ∈ m2, o.own = true ∨ (o.own = false ∧ o.cells = [])) ∧ Le g2 s2 s ∧ k (s2.up m.length) (m ++ m2.map (SObj.up m.length))) (hev (inpOf W) rfl vs hk)).mono ?_
  rintro e W1 ⟨s, m', r', u, ⟨g2, s2, m2, hn2, hm2, hown, hle2, hk⟩, rfl, hst1, hs, _⟩
  have hb : Below W.heap.size W W1 := (@St.low (inpOf W) _ _ _ _ _ hst1).below
  obtain ⟨r2, hst2, hr2, _⟩ := @fit_sound (inpOf W) 0 _ (fun _ => .any) _ _ [] _ _ _ _ #[] hn2 hm2 hst1
  have hj := St.join4 I (inpOf W) hst hst2 hown
  rw [← hst.len] at hk
  exact ⟨_, _, r2, u, hk, rfl, hj, up_is (Le.is hr2 hle2 hs), fun _ => Same.below hst hb⟩
end Go.Proofs.Ytibefgdjijmncaa.Sz
end
section
namespace Go.Proofs.Ytibefgdjijmncaa
open Go.RowKit Sz
set_option maxHeartbeats 8000000
set_option maxRecDepth 20000
namespace St
-- almshouse/stripe.lanes (2 parameters)
def x63 : XC := (.seq (.tree (.seq ⟨some 2, none, (.box (.tmp 0))⟩
 (.seq ⟨some 4, none, (.ofA (.mv (.cst (.v (.slice none 0 0)))))⟩
 .done)))
 (.seq (.seq (.tree (.seq ⟨some 11, none, (.ofA (.load (some 4) (.tmp 2)))⟩
 (.seq ⟨some 12, none, (.call (.cst (.fn 53 [])) [(.tmp 11)])⟩
 (.seq ⟨some 13, none, (.ofA (.bin .neq (.tmp 12) (.cst (.v (.int .i64 0)))))⟩
 .done))))
 (.cond (.tmp 13)
 (.seq (.tree (.seq ⟨some 4, none, (.ofA (.mv (.cst (.v (.slice none 0 0)))))⟩
 .done))
 .ret)
 .skip))
 (.seq (.tree (.seq ⟨some 14, none, (.ofA (.faddr 0 (.tmp 2)))⟩
 (.seq ⟨some 15, none, (.ofA (.load none (.tmp 14)))⟩
 (.seq ⟨some 16, none, (.mkSl 1 24 [(.v (.slice none 0 0))] (.tmp 15) (.tmp 15))⟩
 (.seq ⟨some 5, none, (.ofA (.mv (.tmp 16)))⟩
 .done)))))
 (.seq (.tree (.seq ⟨some 17, none, (.ofA (.mv (.tmp 1)))⟩
 (.seq ⟨some 18, none, (.call (.cst (.fn 105 [])) [(.tmp 17)])⟩
 (.seq ⟨some 6, none, (.ofA (.mv (.tmp 18)))⟩
 .done))))
 (.seq (.tree (.seq ⟨some 19, none, (.ofA (.mv (.tmp 6)))⟩
 (.seq ⟨some 20, none, (.call (.cst (.fn 64 [])) [(.tmp 19)])⟩
 .done)))
 (.seq (.seq (.tree (.seq ⟨some 21, none, (.ofA (.mv (.tmp 6)))⟩
 (.seq ⟨some 22, none, (.call (.cst (.fn 106 [])) [(.tmp 21)])⟩
 (.seq ⟨some 23, none, (.ofA (.len (.tmp 22)))⟩
 (.seq ⟨some 24, none, (.ofA (.mv (.cst (.v (.int .i64 0)))))⟩
 .done)))))
 (.block 0 (.loop (.seq (.tree (.seq ⟨some 25, none, (.ofA (.bin .lss (.tmp 24) (.tmp 23)))⟩
 .done))
 (.seq (.cond (.tmp 25)
 .skip
 (.exit 0))
 (.seq (.block 1 (.seq (.tree (.seq ⟨some 26, none, (.ofA (.isl 1 (.tmp 22) (.tmp 24)))⟩
 (.seq ⟨some 27, none, (.ofA (.load none (.tmp 26)))⟩
 (.seq ⟨some 8, none, (.ofA (.mv (.tmp 27)))⟩
 .done))))
 (.seq (.tree (.seq ⟨some 29, none, (.ofA (.load (some 4) (.tmp 2)))⟩
 (.seq ⟨some 30, none, (.ofA (.mv (.tmp 8)))⟩
 (.seq ⟨some 31, none, (.ofA (.faddr 3 (.tmp 2)))⟩
 (.seq ⟨some 32, none, (.ofA (.load none (.tmp 31)))⟩
 (.seq ⟨some 33, none, (.ofA (.bin .mul (.tmp 30) (.tmp 32)))⟩
 (.seq ⟨some 34, none, (.call (.cst (.fn 107 [])) [(.tmp 29), (.tmp 33)])⟩
 (.seq ⟨some 28, none, (.ofA (.mv (.tmp 34)))⟩
 (.seq ⟨some 35, none, (.ofA (.extract 0 (.tmp 28)))⟩
 (.seq ⟨some 36, none, (.ofA (.extract 1 (.tmp 28)))⟩
 (.seq ⟨some 9, none, (.alloc [(.v (.int .i64 0)), (.v (.int .i64 0)), (.v (.int .i64 0)), (.v (.int .i64 0))])⟩
 (.seq ⟨none, none, (.store 4 (.tmp 9) (.tmp 35))⟩
 (.seq ⟨some 10, none, (.ofA (.mv (.tmp 36)))⟩
 .done)))))))))))))
 (.seq (.tree (.seq ⟨some 37, none, (.ofA (.mv (.tmp 8)))⟩
 (.seq ⟨some 38, none, (.ofA (.bin .geq (.tmp 37) (.cst (.v (.int .i64 0)))))⟩
 (.seq ⟨some 39, none, (.ofA (.mv (.tmp 38)))⟩
 (.seq ⟨some 40, some (39, true), (.ofA (.mv (.tmp 8)))⟩
 (.seq ⟨some 41, some (39, true), (.ofA (.bin .lss (.tmp 40) (.cst (.v (.int .i64 64)))))⟩
 (.seq ⟨some 42, none, (.ofA (.pick (.tmp 39) (.tmp 41) (.cst (.v (.bool false)))))⟩
 (.seq ⟨some 43, none, (.ofA (.mv (.tmp 42)))⟩
 (.seq ⟨some 44, some (43, true), (.ofA (.mv (.tmp 10)))⟩
 (.seq ⟨some 45, some (43, true), (.ofA (.bin .eql (.tmp 44) (.cst (.v (.int .i64 0)))))⟩
 (.seq ⟨some 46, none, (.ofA (.pick (.tmp 43) (.tmp 45) (.cst (.v (.bool false)))))⟩
 .done)))))))))))
 (.cond (.tmp 46)
 (.tree (.take ⟨some 47, none, (.ofA (.mv (.tmp 5)))⟩
 (.take ⟨some 48, none, (.ofA (.faddr 0 (.tmp 9)))⟩
 (.take ⟨some 50, none, (.ofA (.mv (.tmp 5)))⟩
 (.take ⟨some 51, none, (.ofA (.faddr 0 (.tmp 9)))⟩
 (.take ⟨some 52, none, (.ofA (.load none (.tmp 51)))⟩
 (.take ⟨some 53, none, (.ofA (.isl 1 (.tmp 50) (.tmp 52)))⟩
 (.take ⟨some 54, none, (.ofA (.load none (.tmp 53)))⟩
 (.take ⟨some 55, none, (.ofA (.mv (.tmp 8)))⟩
 (.alt [true, true] [(⟨some 49, none, (.ofA (.load none (.tmp 48)))⟩,
 (.alt [true] [(⟨some 56, none, (.buildSl 1 1 [(.v (.int .i64 0))] [(0, 1, (.tmp 55))])⟩,
 (.alt [false] [(⟨some 57, none, (.app 1 8 (.tmp 54) (.tmp 56))⟩,
 (.take ⟨some 58, none, (.ofA (.isl 1 (.tmp 47) (.tmp 49)))⟩
 (.alt [false] [(⟨none, none, (.store 1 (.tmp 58) (.tmp 57))⟩,
 .done)])))]))])), (⟨some 56, none, (.buildSl 1 1 [(.v (.int .i64 0))] [(0, 1, (.tmp 55))])⟩,
 (.alt [true, false] [(⟨some 49, none, (.ofA (.load none (.tmp 48)))⟩,
 (.alt [false] [(⟨some 57, none, (.app 1 8 (.tmp 54) (.tmp 56))⟩,
 (.take ⟨some 58, none, (.ofA (.isl 1 (.tmp 47) (.tmp 49)))⟩
 (.alt [false] [(⟨none, none, (.store 1 (.tmp 58) (.tmp 57))⟩,
 .done)])))])), (⟨some 57, none, (.app 1 8 (.tmp 54) (.tmp 56))⟩,
 (.take ⟨some 49, none, (.ofA (.load none (.tmp 48)))⟩
 (.take ⟨some 58, none, (.ofA (.isl 1 (.tmp 47) (.tmp 49)))⟩
 (.alt [false] [(⟨none, none, (.store 1 (.tmp 58) (.tmp 57))⟩,
 .done)]))))]))]))))))))))
 .skip)))))
 (.tree (.seq ⟨some 59, none, (.ofA (.bin .add (.tmp 24) (.cst (.v (.int .i64 1)))))⟩
 (.seq ⟨some 24, none, (.ofA (.mv (.tmp 59)))⟩
 .done)))))))))
 (.seq (.tree (.seq ⟨some 60, none, (.ofA (.mv (.tmp 5)))⟩
 (.seq ⟨some 4, none, (.ofA (.mv (.tmp 60)))⟩
 .done)))
 .ret)))))))
def r63 : List XR := [.tmp 4]
theorem fn63 : FnX Try.prog 63 [64, 106] 61 x63 r63 := ⟨_, Try.func63, by kernel_rfl, by kernel_rfl, by kernel_rfl, by kernel_rfl⟩
def setF (bs : List Int) : List Int := Lib.compact (srt bs)
def c63 [Inp] : Trans := fun args m k => ∃ (g : Ge) (s : SV) (bs : List Int), args = [.agg g.sv, s] ∧ rdI m s = some bs ∧ bs.length ≤ 100000 ∧
  (chkG g = false → k (.v (.slice none 0 0)) m) ∧
  (chkG g = true → k (.row m.length 0 g.ch.toNat 1) (m ++ ⟨true, lanC (m.length + 1) (lanF g (setF bs) g.ch.toNat)⟩ :: lanO (lanF g (setF bs) g.ch.toNat)))
def G63 [Inp] : List CEntry := [⟨53, true, c53⟩, ⟨105, true, c105⟩, ⟨64, false, sortT srt⟩, ⟨106, false, cutT cmpF cmpN⟩, ⟨107, true, c107⟩]
theorem g63 [Inp] : GOk Try.prog G63 := GOk.cons c53_ok (GOk.cons c105_ok (GOk.cons c64_ok (GOk.cons c106_ok (GOk.cons c107_ok (g0 _)))))
theorem c63_ok [I : Inp] : Contract Try.prog 63 true c63 := by
  refine .readF3 fn63 (G := fun J => @G63 J) (fun J => @g63 J) _ fun args m k h => ?_
  obtain ⟨g, s, bs, rfl, hb, hmax, hk0, hk1⟩ := h
  refine ⟨by simp [Ge.sv], fun J hJ us hus => ?_⟩
  obtain ⟨u, t1, rfl, hu1, u2, t2, rfl, hu2, rfl⟩ := hus
  obtain rfl := hu1.2.1 g.vs rfl
  obtain ⟨p, cc, rfl, hin⟩ := rdI_knows hb hu2
  rw [List.map_cons, List.map_cons, List.map_nil, show SV.of (.agg g.vs.toArray) = _ from ge_of g]
  simp (maxSteps := 2000000) -implicitDefEqProofs only [↓x63, ↓r63, ↓G63, ↓c53, s_alt, s_alt20, s_alt2t, s_alt2f, ↓s_loopi, ↓v_pq, ↓PRE, POST, CORE, Nat.reduceDiv, Nat.reduceMod, Int.reduceLT, Int.reduceLE, Int.reduceToNat, Int.reduceAdd, ↓reduceIte, Nat.reduceEqDiff, Nat.reduceAdd, Nat.reduceMul, Nat.reduceSub, Nat.reduceLeDiff, Nat.reduceLT, reduceCtorEq, if_true, eq_self, forall_const, implies_true]
  refine ⟨g, rfl, fun e he => ?_⟩
  by_cases h0 : e = 0
  case neg =>
    have hg : chkG g = false := by simpa using fun h => h0 (he.2 h)
    have hne : (e != 0) = true := by simpa using h0
    simp (maxSteps := 2000000) -implicitDefEqProofs only [hne, s_alt, s_alt20, s_alt2t, s_alt2f, ↓s_loopi, ↓v_pq, ↓PRE, POST, CORE, Nat.reduceDiv, Nat.reduceMod, Int.reduceLT, Int.reduceLE, Int.reduceToNat, Int.reduceAdd, ↓reduceIte, Nat.reduceEqDiff, Nat.reduceAdd, Nat.reduceMul, Nat.reduceSub, Nat.reduceLeDiff, Nat.reduceLT, reduceCtorEq, if_true, eq_self, forall_const, implies_true]
    refine ⟨[], .v (.slice none 0 0), [], by simp [NdL], trivial, by simp, by simp only [Le], ?_⟩
    simpa [SV.up] using hk0 hg
  subst h0
  have hg := he.1 rfl
  have hk := hk1 hg
  obtain ⟨⟨⟨m1, m1'⟩, ⟨m2, m2'⟩, ⟨m3, m3'⟩, m4, m4'⟩, m5, m6⟩ := chk_in.1 hg
  have i1 : (0 : Int) ≤ g.ch := by omega
  have i2 : 8 * 3 * g.ch ≤ (281474976710656 : Int) := by omega
  simp (maxSteps := 2000000) -implicitDefEqProofs only [bne_self_eq_false, Bool.false_eq_true, i1, ↓G63, ↓c105, s_alt, s_alt20, s_alt2t, s_alt2f, ↓s_loopi, ↓v_pq, ↓PRE, POST, CORE, Nat.reduceDiv, Nat.reduceMod, Int.reduceLT, Int.reduceLE, Int.reduceToNat, Int.reduceAdd, ↓reduceIte, Nat.reduceEqDiff, Nat.reduceAdd, Nat.reduceMul, Nat.reduceSub, Nat.reduceLeDiff, Nat.reduceLT, reduceCtorEq, if_true, eq_self, forall_const, implies_true]
  have hrep : (List.replicate g.ch.toNat [SV.v (.slice none 0 0)]).flatten = lanC 3 (List.replicate g.ch.toNat []) := by
    rw [lanC_rep]
    generalize g.ch.toNat = n
    induction n with
    | zero => rfl
    | succ n ih => rw [List.replicate_succ, List.flatten_cons, ih, List.replicate_succ]; rfl
  obtain ⟨C, hC⟩ : ∃ C : Nat, g.ch = (C : Int) := ⟨g.ch.toNat, by omega⟩
  have hCt : g.ch.toNat = C := by omega
  rw [hrep]
  rw [hCt] at hk ⊢
  obtain ⟨S, hS⟩ : ∃ S, S = setF bs := ⟨_, rfl⟩
  rw [← hS] at hk
  have hSN : cmpN (srt bs) = S.length := by rw [hS]; rfl
  obtain ⟨Z, hZ⟩ : ∃ Z, cmpF (srt bs) = S ++ Z := ⟨_, by rw [hS]; rfl⟩
  have hSl : S.length ≤ 100000 := by
    have := compact_le (srt bs)
    rw [srt_len] at this
    rw [hS]
    exact Nat.le_trans this hmax
  refine ⟨⟨Int.le_refl _, by omega, by omega⟩, .v (.slice p bs.length cc), bs, rfl, rdI_v hin, by omega, ?_, fun hnil => ?_⟩
  · refine .inl ⟨2, bs, rfl, rfl, by omega, ?_⟩
    simp (maxSteps := 2000000) -implicitDefEqProofs only [s_alt, s_alt20, s_alt2t, s_alt2f, ↓s_loopi, ↓v_pq, ↓PRE, POST, CORE, Nat.reduceDiv, Nat.reduceMod, Int.reduceLT, Int.reduceLE, Int.reduceToNat, Int.reduceAdd, ↓reduceIte, Nat.reduceEqDiff, Nat.reduceAdd, Nat.reduceMul, Nat.reduceSub, Nat.reduceLeDiff, Nat.reduceLT, reduceCtorEq, if_true, eq_self, forall_const, implies_true]
    refine .inl ⟨2, srt bs, by rw [srt_len], rfl, by rw [srt_len]; omega, ?_⟩
    simp (maxSteps := 2000000) -implicitDefEqProofs only [hSN, hZ, s_alt, s_alt20, s_alt2t, s_alt2f, ↓s_loopi, ↓v_pq, ↓PRE, POST, CORE, Nat.reduceDiv, Nat.reduceMod, Int.reduceLT, Int.reduceLE, Int.reduceToNat, Int.reduceAdd, ↓reduceIte, Nat.reduceEqDiff, Nat.reduceAdd, Nat.reduceMul, Nat.reduceSub, Nat.reduceLeDiff, Nat.reduceLT, reduceCtorEq, if_true, eq_self, forall_const, implies_true]
    have hcellS : ∀ (x : Nat) (b : Int), S[x]? = some b → (iL (S ++ Z))[x]? = some (.v (.int .i64 b)) := fun x b hx => by
      unfold iL
      rw [List.getElem?_map, List.getElem?_append_left (some_lt hx), hx]
      rfl
    have hSZ : (iL (S ++ Z)).length = S.length + Z.length := by rw [iL_len, List.length_append]
    obtain ⟨sO, hsO⟩ : ∃ sO : SObj, sO = ⟨true, iL (S ++ Z)⟩ := ⟨_, rfl⟩
    obtain ⟨gO, hgO⟩ : ∃ gO : SObj, gO = ⟨true, [.v (.int .i64 g.ch), .v (.int .i64 g.di), .v (.int .i64 g.bl), .v (.int .i64 g.pa)]⟩ := ⟨_, rfl⟩
    have ogO : ∀ G, ObLe G gO gO := fun G => by rw [hgO]; exact .inr ⟨fun h => h, by simp [LeL, Le], trivial⟩
    have osO : ∀ G, ObLe G sO sO := fun G => by rw [hsO]; exact .inr ⟨fun h => h, by show LeL G (iL _) (iL _); rw [iL_le]; trivial, trivial⟩
    have hN : nG g = g.ch * g.di * g.bl := rfl
    refine TXi_of (TX_count (@g63 J) S.length (fun x => [(2, .ptr 0 0), (5, .row 1 0 C 1), (22, .row 2 0 S.length 1), (23, .v (.int .i64 (S.length : Int))), (24, .v (.int .i64 (x : Int)))]) (fun x => [gO, ⟨true, lanC 3 (lanF g (S.take x) C)⟩, sO] ++ lanO (lanF g (S.take x) C)) (fun _ => True) trivial ?_ ?_ ?_)
    · rw [← hgO, ← hsO, List.take_zero, lanF_nil]
      refine fitH hJ (ts := List.replicate C 0) (hs := [0, 1, 2]) (φ := fun c => c) (by decide) rfl (by simp) (fun c l hl => ?_) (fun i j hij _ => by omega) ?_ ?_
      · have hc := some_lt hl
        rw [List.length_replicate] at hc
        rw [List.getElem?_replicate, if_pos hc] at hl
        injection hl with hl
        subst hl
        exact ⟨0, gO, by rw [List.getElem?_replicate, if_pos hc], rfl, fun h => (h rfl).elim⟩
      · simp only [FitM, List.getElem?_cons_zero, List.getElem?_cons_succ]
        refine ⟨ogO _, .inr ⟨fun h => h, lanC_le fun c l hl hne => ?_, trivial⟩, osO _, trivial⟩
        have hc := some_lt hl
        rw [List.length_replicate] at hc
        rw [List.getElem?_replicate, if_pos hc] at hl
        injection hl with hl
        exact (hne hl.symm).elim
      · simp only [FitE, Le, LeL, List.cons_append, List.nil_append] <;> (try (simp (maxSteps := 2000000) -implicitDefEqProofs only [s_alt, s_alt20, s_alt2t, s_alt2f, ↓s_loopi, ↓v_pq, ↓PRE, POST, CORE, Nat.reduceDiv, Nat.reduceMod, Int.reduceLT, Int.reduceLE, Int.reduceToNat, Int.reduceAdd, ↓reduceIte, Nat.reduceEqDiff, Nat.reduceAdd, Nat.reduceMul, Nat.reduceSub, Nat.reduceLeDiff, Nat.reduceLT, reduceCtorEq, if_true, eq_self, forall_const, implies_true])) <;> (try simp only [Sz.Le, Sz.LeL, List.getElem?_cons_zero, List.getElem?_cons_succ]) <;> (try simp)
    · intro x hx _
      obtain ⟨b, hb0⟩ : ∃ b, S[x]? = some b := ⟨_, List.getElem?_eq_getElem hx⟩
      have j0 : (0 : Int) ≤ (x : Int) := by omega
      have j1 : (x : Int) < (S.length : Int) := by omega
      have j2 : x < S.length := hx
      have w1 : IntKind.i64.wrap ((x : Int) + 1) = (x : Int) + 1 := Sz.w_64 (by omega) (by omega)
      have hcb := hcellS x b hb0
      rw [take_snoc hb0]
      obtain ⟨n, hn⟩ : ∃ n, n = IntKind.i64.wrap (b * g.pa) := ⟨_, rfl⟩
      have hnb : -9223372036854775808 ≤ n ∧ n ≤ 9223372036854775807 := by rw [hn, IntKind.wrap_i64]; omega
      have hnin : 0 ≤ b → b < 64 → n = b * g.pa := fun h1 h2 => by
        have q1 : 0 ≤ b * g.pa := Int.mul_nonneg h1 (by omega)
        have q2 : b * g.pa ≤ 64 * 16 := Int.mul_le_mul (by omega) m4' (by omega) (by omega)
        rw [hn]
        exact Sz.w_64 (by omega) (by omega)
      obtain ⟨L, hL⟩ : ∃ L, L = lanF g (S.take x) C := ⟨_, rfl⟩
      have hLl : L.length = C := by rw [hL, lanF_len]
      have hTl : (lanO L).length = C := by rw [lanO_len, hLl]
      have hCl : (lanC 3 L).length = C := by rw [lanC_len, hLl]
      have hat0 : ∀ (a : SObj) t, (lanO L ++ a :: t)[C]? = some a := fun a t => by rw [← hTl]; simp
      have hset0 : ∀ (a d : SObj) t, (lanO L ++ a :: t).set C d = lanO L ++ d :: t := fun a d t => by
        rw [← hTl, List.set_append_right _ _ (Nat.le_refl _)]
        simp
      rw [← hL, hgO, hsO]
      simp (maxSteps := 2000000) -implicitDefEqProofs only [j0, j1, j2, hcb, ← hn, hSZ, ↓G63, ↓c107, s_alt, s_alt20, s_alt2t, s_alt2f, ↓s_loopi, ↓v_pq, ↓PRE, POST, CORE, Nat.reduceDiv, Nat.reduceMod, Int.reduceLT, Int.reduceLE, Int.reduceToNat, Int.reduceAdd, ↓reduceIte, Nat.reduceEqDiff, Nat.reduceAdd, Nat.reduceMul, Nat.reduceSub, Nat.reduceLeDiff, Nat.reduceLT, reduceCtorEq, if_true, eq_self, forall_const, implies_true]
      refine ⟨g, n, rfl, hg, hnb, fun hr d b2 q => ?_, fun hr => ?_⟩
      · by_cases hbr : 0 ≤ b ∧ b < 64
        · have hne := hnin hbr.1 hbr.2
          have hbN : b < g.ch * g.di * g.bl := by
            have hr2 := hr.2
            rw [hne] at hr2
            exact Int.lt_of_mul_lt_mul_right hr2 (by omega)
          have hok : okB g b = true := by unfold okB; rw [hN]; simp [hbr.1, hbN]
          have hdv : n.tdiv g.pa = b := by rw [hne]; exact Int.mul_tdiv_cancel _ (by omega)
          obtain ⟨c0, hc0, hc0C⟩ : ∃ c0 : Nat, b.tmod g.ch = (c0 : Int) ∧ c0 < C := by
            have h1 := Int.tmod_nonneg g.ch hbr.1
            have h2 := Int.tmod_lt_of_pos b (b := g.ch) (by omega)
            exact ⟨(b.tmod g.ch).toNat, by omega, by omega⟩
          rw [lanF_at hok hc0, ← hL, hdv, hc0]
          obtain ⟨l, hl⟩ : ∃ l, lan g (S.take x) c0 = l := ⟨_, rfl⟩
          have hLc : L[c0]? = some l := by rw [hL, lanF_get hc0C, hl]
          rw [hl]
          have hll : l.length ≤ 100000 := by
            rw [← hl]
            unfold lan
            refine Nat.le_trans (List.length_filter_le _ _) ?_
            rw [List.length_take]
            omega
          have k0 : (0 : Int) ≤ (c0 : Int) := by omega
          have k1 : (c0 : Int) < (C : Int) := by omega
          have k2 : c0 + 1 ≤ C := hc0C
          have k3 : l.length + 1 ≤ maxLen := by unfold maxLen; omega
          have hgc := @lanC_get 3 c0 L l hLc
          have hgo := @lanO_get c0 L l hLc
          have hatc : ∀ t, (lanO L ++ t)[c0]? = some (oO (iL l)) := fun t => by rw [List.getElem?_append_left (by rw [hTl]; exact hc0C)]; exact hgo
          have hsetc : ∀ (t : Mem) (d : SObj), (lanO L ++ t).set c0 d = (lanO L).set c0 d ++ t := fun t d => List.set_append_left _ _ (by rw [hTl]; exact hc0C)
          have hov : ∀ s, over (lanC 3 L) c0 [s] = (lanC 3 L).set c0 s := fun s => by
            unfold over
            rw [List.set_eq_take_append_cons_drop, if_pos (by rw [hCl]; exact hc0C)]
            simp
          have hat1 : ∀ (a d : SObj) t, (lanO L ++ a :: d :: t)[C + 1]? = some d := fun a d t => by rw [← hTl, List.getElem?_append_right (by omega)]; simp
          have hats : ∀ (d a : SObj) t, (List.set (lanO L) c0 d ++ a :: t)[C]? = some a := fun d a t => by
            have : (List.set (lanO L) c0 d).length = C := by rw [List.length_set, hTl]
            rw [List.getElem?_append_right (by omega), this, Nat.sub_self]
            rfl
          have k4 : (l.length + 1) * 8 ≤ 140737488355328 := by omega
          have hnl : l ++ [b] ≠ [] := by simp
          have hnn : l.length + 1 = (l ++ [b]).length := by simp
          simp (maxSteps := 2000000) -implicitDefEqProofs only [w1, hbr.1, hbr.2, hTl, hat0, hat1, hats, hset0, List.append_assoc, beq_self_eq_true, k0, k1, k2, k3, k4, hgc, hatc, hsetc, hov, hCl, o_sl, o_grows, o_kill, o_len, o_cap, o_isl, o_le, o_cells, o_one, oOk_c, oOk_o, oO_cells, oO_own, oV_s, oV_0, oO_nil, oO_iL, iL_nil, iL_snoc, List.length_append, iL_fold, iL_over, iL_all, iL_get, iL_len, iL_take, iL_drop, iL_one, iL_plain, iL_le, List.length_set, s_alt, s_alt20, s_alt2t, s_alt2f, ↓s_loopi, ↓v_pq, ↓PRE, POST, CORE, Nat.reduceDiv, Nat.reduceMod, Int.reduceLT, Int.reduceLE, Int.reduceToNat, Int.reduceAdd, ↓reduceIte, Nat.reduceEqDiff, Nat.reduceAdd, Nat.reduceMul, Nat.reduceSub, Nat.reduceLeDiff, Nat.reduceLT, reduceCtorEq, if_true, eq_self, forall_const, implies_true]
          rw [← hgO, ← hsO]
          repeat' apply And.intro
          all_goals (refine fitU hJ ogO osO hLl hc0C hnl hnn ?_; simp only [FitE, Le, LeL, List.cons_append, List.nil_append] <;> (try (simp (maxSteps := 2000000) -implicitDefEqProofs only [s_alt, s_alt20, s_alt2t, s_alt2f, ↓s_loopi, ↓v_pq, ↓PRE, POST, CORE, Nat.reduceDiv, Nat.reduceMod, Int.reduceLT, Int.reduceLE, Int.reduceToNat, Int.reduceAdd, ↓reduceIte, Nat.reduceEqDiff, Nat.reduceAdd, Nat.reduceMul, Nat.reduceSub, Nat.reduceLeDiff, Nat.reduceLT, reduceCtorEq, if_true, eq_self, forall_const, implies_true])) <;> (try simp only [Sz.Le, Sz.LeL, List.getElem?_cons_zero, List.getElem?_cons_succ]) <;> (try simp))
        · have hok : okB g b = false := by
            unfold okB
            rw [hN]
            simp
            omega
          rw [lanF_no hok, ← hL]
          by_cases hb1 : 0 ≤ b
          · have hb2 : ¬ b < 64 := fun h => hbr ⟨hb1, h⟩
            simp (maxSteps := 2000000) -implicitDefEqProofs only [w1, hb1, hb2, hTl, hat0, hset0, List.append_assoc, beq_self_eq_true, s_alt, s_alt20, s_alt2t, s_alt2f, ↓s_loopi, ↓v_pq, ↓PRE, POST, CORE, Nat.reduceDiv, Nat.reduceMod, Int.reduceLT, Int.reduceLE, Int.reduceToNat, Int.reduceAdd, ↓reduceIte, Nat.reduceEqDiff, Nat.reduceAdd, Nat.reduceMul, Nat.reduceSub, Nat.reduceLeDiff, Nat.reduceLT, reduceCtorEq, if_true, eq_self, forall_const, implies_true]
            rw [← hgO, ← hsO]
            refine fitS hJ ogO osO hLl ?_
            simp only [FitE, Le, LeL, List.cons_append, List.nil_append] <;> (try (simp (maxSteps := 2000000) -implicitDefEqProofs only [s_alt, s_alt20, s_alt2t, s_alt2f, ↓s_loopi, ↓v_pq, ↓PRE, POST, CORE, Nat.reduceDiv, Nat.reduceMod, Int.reduceLT, Int.reduceLE, Int.reduceToNat, Int.reduceAdd, ↓reduceIte, Nat.reduceEqDiff, Nat.reduceAdd, Nat.reduceMul, Nat.reduceSub, Nat.reduceLeDiff, Nat.reduceLT, reduceCtorEq, if_true, eq_self, forall_const, implies_true])) <;> (try simp only [Sz.Le, Sz.LeL, List.getElem?_cons_zero, List.getElem?_cons_succ]) <;> (try simp)
          · simp (maxSteps := 2000000) -implicitDefEqProofs only [w1, hb1, hTl, hat0, hset0, List.append_assoc, beq_self_eq_true, s_alt, s_alt20, s_alt2t, s_alt2f, ↓s_loopi, ↓v_pq, ↓PRE, POST, CORE, Nat.reduceDiv, Nat.reduceMod, Int.reduceLT, Int.reduceLE, Int.reduceToNat, Int.reduceAdd, ↓reduceIte, Nat.reduceEqDiff, Nat.reduceAdd, Nat.reduceMul, Nat.reduceSub, Nat.reduceLeDiff, Nat.reduceLT, reduceCtorEq, if_true, eq_self, forall_const, implies_true]
            rw [← hgO, ← hsO]
            refine fitS hJ ogO osO hLl ?_
            simp only [FitE, Le, LeL, List.cons_append, List.nil_append] <;> (try (simp (maxSteps := 2000000) -implicitDefEqProofs only [s_alt, s_alt20, s_alt2t, s_alt2f, ↓s_loopi, ↓v_pq, ↓PRE, POST, CORE, Nat.reduceDiv, Nat.reduceMod, Int.reduceLT, Int.reduceLE, Int.reduceToNat, Int.reduceAdd, ↓reduceIte, Nat.reduceEqDiff, Nat.reduceAdd, Nat.reduceMul, Nat.reduceSub, Nat.reduceLeDiff, Nat.reduceLT, reduceCtorEq, if_true, eq_self, forall_const, implies_true])) <;> (try simp only [Sz.Le, Sz.LeL, List.getElem?_cons_zero, List.getElem?_cons_succ]) <;> (try simp)
      · have hok : okB g b = false := by
          unfold okB
          rw [hN]
          simp only [Bool.and_eq_false_iff, decide_eq_false_iff_not]
          rcases Int.lt_or_le b 0 with h1 | h1
          · exact .inl (by omega)
          · refine .inr fun h2 => hr ?_
            have hne := hnin h1 (by omega)
            rw [hne]
            exact ⟨Int.mul_nonneg h1 (by omega), Int.mul_lt_mul_of_pos_right h2 (by omega)⟩
        rw [lanF_no hok, ← hL]
        have h50 : ((5 : Int) == 0) = false := rfl
        by_cases hb1 : 0 ≤ b
        · by_cases hb2 : b < 64
          · simp (maxSteps := 2000000) -implicitDefEqProofs only [w1, hb1, hb2, h50, hTl, hat0, hset0, List.append_assoc, s_alt, s_alt20, s_alt2t, s_alt2f, ↓s_loopi, ↓v_pq, ↓PRE, POST, CORE, Nat.reduceDiv, Nat.reduceMod, Int.reduceLT, Int.reduceLE, Int.reduceToNat, Int.reduceAdd, ↓reduceIte, Nat.reduceEqDiff, Nat.reduceAdd, Nat.reduceMul, Nat.reduceSub, Nat.reduceLeDiff, Nat.reduceLT, reduceCtorEq, if_true, eq_self, forall_const, implies_true]
            rw [← hgO, ← hsO]
            refine fitS hJ ogO osO hLl ?_
            simp only [FitE, Le, LeL, List.cons_append, List.nil_append] <;> (try (simp (maxSteps := 2000000) -implicitDefEqProofs only [s_alt, s_alt20, s_alt2t, s_alt2f, ↓s_loopi, ↓v_pq, ↓PRE, POST, CORE, Nat.reduceDiv, Nat.reduceMod, Int.reduceLT, Int.reduceLE, Int.reduceToNat, Int.reduceAdd, ↓reduceIte, Nat.reduceEqDiff, Nat.reduceAdd, Nat.reduceMul, Nat.reduceSub, Nat.reduceLeDiff, Nat.reduceLT, reduceCtorEq, if_true, eq_self, forall_const, implies_true])) <;> (try simp only [Sz.Le, Sz.LeL, List.getElem?_cons_zero, List.getElem?_cons_succ]) <;> (try simp)
          · simp (maxSteps := 2000000) -implicitDefEqProofs only [w1, hb1, hb2, hTl, hat0, hset0, List.append_assoc, s_alt, s_alt20, s_alt2t, s_alt2f, ↓s_loopi, ↓v_pq, ↓PRE, POST, CORE, Nat.reduceDiv, Nat.reduceMod, Int.reduceLT, Int.reduceLE, Int.reduceToNat, Int.reduceAdd, ↓reduceIte, Nat.reduceEqDiff, Nat.reduceAdd, Nat.reduceMul, Nat.reduceSub, Nat.reduceLeDiff, Nat.reduceLT, reduceCtorEq, if_true, eq_self, forall_const, implies_true]
            rw [← hgO, ← hsO]
            refine fitS hJ ogO osO hLl ?_
            simp only [FitE, Le, LeL, List.cons_append, List.nil_append] <;> (try (simp (maxSteps := 2000000) -implicitDefEqProofs only [s_alt, s_alt20, s_alt2t, s_alt2f, ↓s_loopi, ↓v_pq, ↓PRE, POST, CORE, Nat.reduceDiv, Nat.reduceMod, Int.reduceLT, Int.reduceLE, Int.reduceToNat, Int.reduceAdd, ↓reduceIte, Nat.reduceEqDiff, Nat.reduceAdd, Nat.reduceMul, Nat.reduceSub, Nat.reduceLeDiff, Nat.reduceLT, reduceCtorEq, if_true, eq_self, forall_const, implies_true])) <;> (try simp only [Sz.Le, Sz.LeL, List.getElem?_cons_zero, List.getElem?_cons_succ]) <;> (try simp)
        · simp (maxSteps := 2000000) -implicitDefEqProofs only [w1, hb1, hTl, hat0, hset0, List.append_assoc, s_alt, s_alt20, s_alt2t, s_alt2f, ↓s_loopi, ↓v_pq, ↓PRE, POST, CORE, Nat.reduceDiv, Nat.reduceMod, Int.reduceLT, Int.reduceLE, Int.reduceToNat, Int.reduceAdd, ↓reduceIte, Nat.reduceEqDiff, Nat.reduceAdd, Nat.reduceMul, Nat.reduceSub, Nat.reduceLeDiff, Nat.reduceLT, reduceCtorEq, if_true, eq_self, forall_const, implies_true]
          rw [← hgO, ← hsO]
          refine fitS hJ ogO osO hLl ?_
          simp only [FitE, Le, LeL, List.cons_append, List.nil_append] <;> (try (simp (maxSteps := 2000000) -implicitDefEqProofs only [s_alt, s_alt20, s_alt2t, s_alt2f, ↓s_loopi, ↓v_pq, ↓PRE, POST, CORE, Nat.reduceDiv, Nat.reduceMod, Int.reduceLT, Int.reduceLE, Int.reduceToNat, Int.reduceAdd, ↓reduceIte, Nat.reduceEqDiff, Nat.reduceAdd, Nat.reduceMul, Nat.reduceSub, Nat.reduceLeDiff, Nat.reduceLT, reduceCtorEq, if_true, eq_self, forall_const, implies_true])) <;> (try simp only [Sz.Le, Sz.LeL, List.getElem?_cons_zero, List.getElem?_cons_succ]) <;> (try simp)
    · intro _
      have j1 : ¬ (S.length : Int) < (S.length : Int) := by omega
      rw [List.take_length]
      simp (maxSteps := 2000000) -implicitDefEqProofs only [j1, s_alt, s_alt20, s_alt2t, s_alt2f, ↓s_loopi, ↓v_pq, ↓PRE, POST, CORE, Nat.reduceDiv, Nat.reduceMod, Int.reduceLT, Int.reduceLE, Int.reduceToNat, Int.reduceAdd, ↓reduceIte, Nat.reduceEqDiff, Nat.reduceAdd, Nat.reduceMul, Nat.reduceSub, Nat.reduceLeDiff, Nat.reduceLT, reduceCtorEq, if_true, eq_self, forall_const, implies_true]
      refine lanEnd (lanF_len g S C) (tsI_len 3 C) rfl (fun c l hl => ?_) hk
      have hcC : c < C := by have := some_lt hl; rwa [lanF_len] at this
      refine ⟨c + 3, oO (iL l), tsI_get hcC, ?_, fun hne => ⟨?_, rfl⟩⟩
      · simp only [List.getElem?_cons_succ]
        exact lanO_get hl
      · cases l with
        | nil => exact (hne rfl).elim
        | cons a l => rfl
  · subst hnil
    have hS0 : S = [] := by
      rw [hS]
      have := compact_le (srt [])
      rw [srt_len] at this
      exact List.length_eq_zero_iff.1 (Nat.le_zero.1 this)
    subst hS0
    rw [lanF_nil] at hk
    refine .inr (.inl ⟨none, 0, rfl, .inr (.inl ⟨none, 0, rfl, ?_⟩)⟩)
    simp (maxSteps := 2000000) -implicitDefEqProofs only [s_alt, s_alt20, s_alt2t, s_alt2f, ↓s_loopi, ↓v_pq, ↓PRE, POST, CORE, Nat.reduceDiv, Nat.reduceMod, Int.reduceLT, Int.reduceLE, Int.reduceToNat, Int.reduceAdd, ↓reduceIte, Nat.reduceEqDiff, Nat.reduceAdd, Nat.reduceMul, Nat.reduceSub, Nat.reduceLeDiff, Nat.reduceLT, reduceCtorEq, if_true, eq_self, forall_const, implies_true]
    refine TXi_of (TX_count (@g63 J) 0 (fun x => [(5, .row 1 0 C 1), (23, .v (.int .i64 0)), (24, .v (.int .i64 (x : Int)))]) (fun x => [⟨true, [.v (.int .i64 g.ch), .v (.int .i64 g.di), .v (.int .i64 g.bl), .v (.int .i64 g.pa)]⟩, ⟨true, lanC 3 (List.replicate C [])⟩]) (fun _ => True) trivial ?_ (fun x hx _ => by omega) ?_)
    · refine ⟨[0, 1], by simp [NdL, NdA], ?_, ?_, keep0 hJ⟩
      · simp only [FitM, List.getElem?_cons_zero, List.getElem?_cons_succ]
        refine ⟨.inr ⟨fun h => h, by simp [LeL, Le], trivial⟩, .inr ⟨fun h => h, lanC_le fun c l hl hne => ?_, trivial⟩, trivial⟩
        rw [List.getElem?_replicate] at hl
        split at hl
        · injection hl with hl
          exact (hne hl.symm).elim
        · cases hl
      · simp only [FitE, Le, LeL, List.cons_append, List.nil_append] <;> (try (simp (maxSteps := 2000000) -implicitDefEqProofs only [s_alt, s_alt20, s_alt2t, s_alt2f, ↓s_loopi, ↓v_pq, ↓PRE, POST, CORE, Nat.reduceDiv, Nat.reduceMod, Int.reduceLT, Int.reduceLE, Int.reduceToNat, Int.reduceAdd, ↓reduceIte, Nat.reduceEqDiff, Nat.reduceAdd, Nat.reduceMul, Nat.reduceSub, Nat.reduceLeDiff, Nat.reduceLT, reduceCtorEq, if_true, eq_self, forall_const, implies_true])) <;> (try simp only [Sz.Le, Sz.LeL, List.getElem?_cons_zero, List.getElem?_cons_succ]) <;> (try simp)
    · intro _
      have j1 : ¬ ((0 : Nat) : Int) < (0 : Int) := by omega
      simp (maxSteps := 2000000) -implicitDefEqProofs only [j1, s_alt, s_alt20, s_alt2t, s_alt2f, ↓s_loopi, ↓v_pq, ↓PRE, POST, CORE, Nat.reduceDiv, Nat.reduceMod, Int.reduceLT, Int.reduceLE, Int.reduceToNat, Int.reduceAdd, ↓reduceIte, Nat.reduceEqDiff, Nat.reduceAdd, Nat.reduceMul, Nat.reduceSub, Nat.reduceLeDiff, Nat.reduceLT, reduceCtorEq, if_true, eq_self, forall_const, implies_true]
      refine lanEnd (ts := List.replicate C 0) (by simp) (by simp) rfl (fun c l hl => ?_) hk
      have hcC : c < C := by have := some_lt hl; rwa [List.length_replicate] at this
      rw [List.getElem?_replicate, if_pos hcC] at hl
      injection hl with hl
      subst hl
      exact ⟨0, _, by rw [List.getElem?_replicate, if_pos hcC], rfl, fun h => (h rfl).elim⟩
end St
end Go.Proofs.Ytibefgdjijmncaa
end
section
namespace Go.Proofs.Ytibefgdjijmncaa
open Go.RowKit Sz
set_option maxHeartbeats 8000000
set_option maxRecDepth 20000
namespace St
def rowAt (L : List (List Int)) (i : Nat) : List Int := L.filterMap fun l => l[i]?
theorem rowAt_snoc (L : List (List Int)) (l : List Int) (i : Nat) : rowAt (L ++ [l]) i = rowAt L i ++ l[i]?.toList := by
  unfold rowAt
  rw [List.filterMap_append]
  congr 1
theorem rowAt_len (L : List (List Int)) (i : Nat) : (rowAt L i).length ≤ L.length := List.length_filterMap_le _ _
theorem rowAt_nil {L : List (List Int)} {i : Nat} : rowAt L i = [] ↔ ∀ l ∈ L, l.length ≤ i := by
  unfold rowAt
  rw [List.filterMap_eq_nil_iff]
  constructor
  · intro h l hl
    have := h l hl
    rw [List.getElem?_eq_none_iff] at this
    exact this
  · intro h l hl
    exact List.getElem?_eq_none (h l hl)
def ordN (L : List (List Int)) (n : Nat) : List Int := (List.range n).flatMap (rowAt L)
theorem ordN_succ (L : List (List Int)) (n : Nat) : ordN L (n + 1) = ordN L n ++ rowAt L n := by
  unfold ordN
  rw [List.range_succ, List.flatMap_append]
  simp
theorem ordN_len (L : List (List Int)) : ∀ n, (ordN L n).length ≤ n * L.length
  | 0 => by simp [ordN]
  | n + 1 => by
    rw [ordN_succ, List.length_append, Nat.succ_mul]
    have := ordN_len L n
    have := rowAt_len L n
    omega
theorem ordN_stop {L : List (List Int)} {D : Nat} (h : rowAt L D = []) : ∀ n, ordN L (D + n) = ordN L D
  | 0 => rfl
  | n + 1 => by
    rw [← Nat.add_assoc, ordN_succ, ordN_stop h n]
    have : rowAt L (D + n) = [] := rowAt_nil.2 fun l hl => Nat.le_trans (rowAt_nil.1 h l hl) (Nat.le_add_right _ _)
    rw [this, List.append_nil]
theorem least {p : Nat → Prop} : ∀ (n B : Nat), B ≤ n → p B → ∃ D, D ≤ B ∧ p D ∧ ∀ i, i < D → ¬ p i
  | 0, B, hB, h => ⟨B, Nat.le_refl _, h, fun i hi => by omega⟩
  | n + 1, B, hB, h => by
    by_cases e : ∃ i, i < B ∧ p i
    · obtain ⟨i, hi, hp⟩ := e
      obtain ⟨D, h1, h2, h3⟩ := least n i (by omega) hp
      exact ⟨D, by omega, h2, h3⟩
    · exact ⟨B, Nat.le_refl _, h, fun i hi hp => e ⟨i, hi, hp⟩⟩
theorem lanC_leI {hs : List Nat} {p C : Nat} {L : List (List Int)} (hp : hs.length = p) (hL : L.length = C) : LeL (hs ++ tsI p C) (lanC p L) (lanC p L) :=
  lanC_le fun c l hl _ => by
    rw [List.getElem?_append_right (by omega), hp, show c + p - p = c by omega]
    exact tsI_get (by have := some_lt hl; omega)
theorem oO_al {l : List Int} (h : l ≠ []) : oO (iL l) = ⟨true, iL l⟩ := by
  cases l with
  | nil => exact (h rfl).elim
  | cons a l => rfl
theorem fitR [J : Inp] (hJ : J.keep = 0) {e : Env} {m : Mem} {env : List (Nat × SV)} {L : List (List Int)} {C p : Nat} {hs : List Nat} {heads : Mem} (hL : L.length = C) (hp : hs.length = p) (hh : heads.length = p) (hn : hs.Nodup) (hf : ∀ h ∈ hs, h < p ∨ p + C ≤ h)
    (hm : ∀ (c : Nat) (l : List Int), L[c]? = some l → m[c + p]? = some (oO (iL l))) (hM : FitM (hs ++ tsI p C) m hs heads) (hE : FitE (hs ++ tsI p C) e env) : Fit e m env (heads ++ lanO L) :=
  fitH hJ (φ := fun i => i + p) hn (by rw [hp, hh]) (by rw [tsI_len, hL]) (fun c l hl => by
    have hc := some_lt hl
    exact ⟨c + p, _, tsI_get (by omega), hm c l hl, fun hne => ⟨oO_al hne, rfl, fun hq => by have := hf _ hq; omega⟩⟩) (fun i j hij _ => by show i + p ≠ j + p; omega) hM hE
-- almshouse/stripe.Order (2 parameters)
def x22 : XC := (.seq (.tree (.seq ⟨some 2, none, (.box (.tmp 0))⟩
 (.seq ⟨some 4, none, (.ofA (.mv (.cst (.v (.slice none 0 0)))))⟩
 .done)))
 (.seq (.tree (.seq ⟨some 11, none, (.ofA (.load (some 4) (.tmp 2)))⟩
 (.seq ⟨some 12, none, (.ofA (.mv (.tmp 1)))⟩
 (.seq ⟨some 13, none, (.call (.cst (.fn 63 [])) [(.tmp 11), (.tmp 12)])⟩
 (.seq ⟨some 5, none, (.ofA (.mv (.tmp 13)))⟩
 .done)))))
 (.seq (.tree (.seq ⟨some 6, none, (.ofA (.mv (.cst (.v (.slice none 0 0)))))⟩
 .done))
 (.seq (.tree (.seq ⟨some 7, none, (.ofA (.mv (.cst (.v (.int .i64 0)))))⟩
 .done))
 (.block 0 (.loop (.seq (.block 1 (.seq (.tree (.seq ⟨some 16, none, (.ofA (.mv (.tmp 6)))⟩
 (.seq ⟨some 17, none, (.ofA (.len (.tmp 16)))⟩
 (.seq ⟨some 8, none, (.ofA (.mv (.tmp 17)))⟩
 .done))))
 (.seq (.seq (.tree (.seq ⟨some 18, none, (.ofA (.mv (.tmp 5)))⟩
 (.seq ⟨some 19, none, (.ofA (.len (.tmp 18)))⟩
 (.seq ⟨some 20, none, (.ofA (.mv (.cst (.v (.int .i64 0)))))⟩
 .done))))
 (.block 2 (.loop (.seq (.tree (.seq ⟨some 21, none, (.ofA (.bin .lss (.tmp 20) (.tmp 19)))⟩
 .done))
 (.seq (.cond (.tmp 21)
 .skip
 (.exit 2))
 (.seq (.block 3 (.seq (.tree (.seq ⟨some 22, none, (.ofA (.isl 1 (.tmp 18) (.tmp 20)))⟩
 (.seq ⟨some 23, none, (.ofA (.load none (.tmp 22)))⟩
 (.seq ⟨some 10, none, (.ofA (.mv (.tmp 23)))⟩
 .done))))
 (.seq (.tree (.seq ⟨some 24, none, (.ofA (.mv (.tmp 7)))⟩
 (.seq ⟨some 25, none, (.ofA (.mv (.tmp 10)))⟩
 (.seq ⟨some 26, none, (.ofA (.len (.tmp 25)))⟩
 (.seq ⟨some 27, none, (.ofA (.bin .lss (.tmp 24) (.tmp 26)))⟩
 .done)))))
 (.cond (.tmp 27)
 (.tree (.seq ⟨some 28, none, (.ofA (.mv (.tmp 6)))⟩
 (.seq ⟨some 29, none, (.ofA (.mv (.tmp 10)))⟩
 (.seq ⟨some 30, none, (.ofA (.mv (.tmp 7)))⟩
 (.seq ⟨some 31, none, (.ofA (.isl 1 (.tmp 29) (.tmp 30)))⟩
 (.seq ⟨some 32, none, (.ofA (.load none (.tmp 31)))⟩
 (.seq ⟨some 33, none, (.buildSl 1 1 [(.v (.int .i64 0))] [(0, 1, (.tmp 32))])⟩
 (.seq ⟨some 34, none, (.app 1 8 (.tmp 28) (.tmp 33))⟩
 (.seq ⟨some 6, none, (.ofA (.mv (.tmp 34)))⟩
 .done)))))))))
 .skip))))
 (.tree (.seq ⟨some 35, none, (.ofA (.bin .add (.tmp 20) (.cst (.v (.int .i64 1)))))⟩
 (.seq ⟨some 20, none, (.ofA (.mv (.tmp 35)))⟩
 .done)))))))))
 (.seq (.tree (.seq ⟨some 36, none, (.ofA (.mv (.tmp 6)))⟩
 (.seq ⟨some 37, none, (.ofA (.len (.tmp 36)))⟩
 (.seq ⟨some 38, none, (.ofA (.mv (.tmp 8)))⟩
 (.seq ⟨some 39, none, (.ofA (.bin .eql (.tmp 37) (.tmp 38)))⟩
 .done)))))
 (.cond (.tmp 39)
 (.seq (.tree (.seq ⟨some 40, none, (.ofA (.mv (.tmp 6)))⟩
 (.seq ⟨some 4, none, (.ofA (.mv (.tmp 40)))⟩
 .done)))
 .ret)
 .skip)))))
 (.tree (.seq ⟨some 14, none, (.ofA (.mv (.tmp 7)))⟩
 (.seq ⟨some 15, none, (.ofA (.bin .add (.tmp 14) (.cst (.v (.int .i64 1)))))⟩
 (.seq ⟨some 7, none, (.ofA (.mv (.tmp 15)))⟩
 .done)))))))))))
def r22 : List XR := [.tmp 4]
theorem fn22 : FnX Try.prog 22 [64, 106] 41 x22 r22 := ⟨_, Try.func22, by kernel_rfl, by kernel_rfl, by kernel_rfl, by kernel_rfl⟩
def ordF (g : Ge) (bs : List Int) : List Int := ordN (lanF g (setF bs) g.ch.toNat) 100000
def c22 [Inp] : Trans := fun args m k => ∃ (g : Ge) (s : SV) (bs : List Int), args = [.agg g.sv, s] ∧ rdI m s = some bs ∧ bs.length ≤ 100000 ∧
  (chkG g = false → k (.v (.slice none 0 0)) m) ∧ (chkG g = true → k (intS m.length (ordF g bs)) (m ++ intM (ordF g bs)))
theorem g63' [Inp] : GOk Try.prog [⟨63, true, c63⟩] := GOk.cons c63_ok (g0 _)
theorem c22_ok [I : Inp] : Contract Try.prog 22 true c22 := by
  refine .readF fn22 (G := fun J => [⟨63, true, @c63 J⟩]) (fun J => @g63' J) _ fun args m k h => ?_
  obtain ⟨g, s, bs, rfl, hb, hmax, hk0, hk1⟩ := h
  refine ⟨by simp [Ge.sv], fun J hJ us hus => ?_⟩
  obtain ⟨u, t1, rfl, hu1, u2, t2, rfl, hu2, rfl⟩ := hus
  obtain rfl := hu1.2.1 g.vs rfl
  obtain ⟨p, cc, rfl, hin⟩ := rdI_knows hb hu2
  rw [List.map_cons, List.map_cons, List.map_nil, show SV.of (.agg g.vs.toArray) = _ from ge_of g]
  simp (maxSteps := 2000000) -implicitDefEqProofs only [↓x22, ↓r22, ↓c63, s_alt, s_alt20, s_alt2t, s_alt2f, ↓s_loopi, ↓v_pq, ↓PRE, POST, CORE, Nat.reduceDiv, Nat.reduceMod, Int.reduceLT, Int.reduceLE, Int.reduceToNat, Int.reduceAdd, ↓reduceIte, Nat.reduceEqDiff, Nat.reduceAdd, Nat.reduceMul, Nat.reduceSub, Nat.reduceLeDiff, Nat.reduceLT, reduceCtorEq, if_true, eq_self, forall_const, implies_true]
  refine ⟨g, .v (.slice p bs.length cc), bs, rfl, rdI_v hin, hmax, fun hg => ?_, fun hg => ?_⟩
  · refine TXi_of (TX_count (@g63' J) 0 (fun x => [(5, .v (.slice none 0 0)), (6, .v (.slice none 0 0)), (7, .v (.int .i64 0))]) (fun x => []) (fun _ => True) trivial (by refine ⟨[], by simp [NdL, NdA, oO_cells, oO_own, iL_nil], ?_, ?_, keep0 hJ⟩ <;> simp only [FitM, FitE, ObLe, LeL, Le, List.cons_append, List.nil_append] <;> (try (simp (maxSteps := 2000000) -implicitDefEqProofs only [s_alt, s_alt20, s_alt2t, s_alt2f, ↓s_loopi, ↓v_pq, ↓PRE, POST, CORE, Nat.reduceDiv, Nat.reduceMod, Int.reduceLT, Int.reduceLE, Int.reduceToNat, Int.reduceAdd, ↓reduceIte, Nat.reduceEqDiff, Nat.reduceAdd, Nat.reduceMul, Nat.reduceSub, Nat.reduceLeDiff, Nat.reduceLT, reduceCtorEq, if_true, eq_self, forall_const, implies_true])) <;> (try simp only [Sz.Le, Sz.LeL, List.getElem?_cons_zero, List.getElem?_cons_succ]) <;> (try simp)) (fun x hx _ => by omega) ?_)
    intro _
    simp (maxSteps := 2000000) -implicitDefEqProofs only [s_alt, s_alt20, s_alt2t, s_alt2f, ↓s_loopi, ↓v_pq, ↓PRE, POST, CORE, Nat.reduceDiv, Nat.reduceMod, Int.reduceLT, Int.reduceLE, Int.reduceToNat, Int.reduceAdd, ↓reduceIte, Nat.reduceEqDiff, Nat.reduceAdd, Nat.reduceMul, Nat.reduceSub, Nat.reduceLeDiff, Nat.reduceLT, reduceCtorEq, if_true, eq_self, forall_const, implies_true]
    refine TXi_of (TX_count (@g63' J) 0 (fun x => [(5, .v (.slice none 0 0)), (6, .v (.slice none 0 0)), (7, .v (.int .i64 0)), (8, .v (.int .i64 0)), (19, .v (.int .i64 0)), (20, .v (.int .i64 0))]) (fun x => []) (fun _ => True) trivial (by refine ⟨[], by simp [NdL, NdA, oO_cells, oO_own, iL_nil], ?_, ?_, keep0 hJ⟩ <;> simp only [FitM, FitE, ObLe, LeL, Le, List.cons_append, List.nil_append] <;> (try (simp (maxSteps := 2000000) -implicitDefEqProofs only [s_alt, s_alt20, s_alt2t, s_alt2f, ↓s_loopi, ↓v_pq, ↓PRE, POST, CORE, Nat.reduceDiv, Nat.reduceMod, Int.reduceLT, Int.reduceLE, Int.reduceToNat, Int.reduceAdd, ↓reduceIte, Nat.reduceEqDiff, Nat.reduceAdd, Nat.reduceMul, Nat.reduceSub, Nat.reduceLeDiff, Nat.reduceLT, reduceCtorEq, if_true, eq_self, forall_const, implies_true])) <;> (try simp only [Sz.Le, Sz.LeL, List.getElem?_cons_zero, List.getElem?_cons_succ]) <;> (try simp)) (fun x hx _ => by omega) ?_)
    intro _
    simp (maxSteps := 2000000) -implicitDefEqProofs only [Int.lt_irrefl, beq_self_eq_true, s_alt, s_alt20, s_alt2t, s_alt2f, ↓s_loopi, ↓v_pq, ↓PRE, POST, CORE, Nat.reduceDiv, Nat.reduceMod, Int.reduceLT, Int.reduceLE, Int.reduceToNat, Int.reduceAdd, ↓reduceIte, Nat.reduceEqDiff, Nat.reduceAdd, Nat.reduceMul, Nat.reduceSub, Nat.reduceLeDiff, Nat.reduceLT, reduceCtorEq, if_true, eq_self, forall_const, implies_true]
    refine ⟨[], .v (.slice none 0 0), [], by simp, trivial, by simp, by simp only [Le], ?_⟩
    simpa [SV.up] using hk0 hg
  · have i1 : 0 ≤ g.ch ∧ g.ch ≤ 64 := by have := (chk_in.1 hg).1.1; omega
    have hk := hk1 hg
    unfold ordF at hk
    obtain ⟨C, hC⟩ : ∃ C, C = g.ch.toNat := ⟨_, rfl⟩
    rw [← hC] at hk ⊢
    have hC64 : C ≤ 64 := by omega
    obtain ⟨L, hL⟩ : ∃ L, L = lanF g (setF bs) C := ⟨_, rfl⟩
    rw [← hL] at hk ⊢
    have hLl : L.length = C := by rw [hL, lanF_len]
    have hLb : ∀ l ∈ L, l.length ≤ 100000 := fun l hl => by
      rw [hL] at hl
      obtain ⟨c, _, rfl⟩ := List.mem_map.1 hl
      unfold lan
      refine Nat.le_trans (List.length_filter_le _ _) ?_
      have := compact_le (srt bs)
      rw [srt_len] at this
      exact Nat.le_trans this hmax
    have hTl : (lanO L).length = C := by rw [lanO_len, hLl]
    have hCl : (lanC 2 L).length = C := by rw [lanC_len, hLl]
    obtain ⟨D, hD, hD0, hD1⟩ := least (p := fun i => rowAt L i = []) 100000 100000 (Nat.le_refl _) (rowAt_nil.2 hLb)
    have hstop := ordN_stop hD0 (100000 - D)
    rw [show D + (100000 - D) = 100000 by omega] at hstop
    rw [hstop] at hk
    obtain ⟨lO, hlO⟩ : ∃ lO : SObj, lO = ⟨true, lanC 2 L⟩ := ⟨_, rfl⟩
    have olO : ∀ hs : List Nat, hs.length = 2 → ObLe (hs ++ tsI 2 C) lO lO := fun hs h => by rw [hlO]; exact .inr ⟨fun h => h, lanC_leI h hLl, trivial⟩
    refine TXi_of (TX_count (@g63' J) D (fun x => [(5, .row 0 0 C 1), (6, oV 1 1 (ordN L x).length), (7, .v (.int .i64 (x : Int)))]) (fun x => [lO, oO (iL (ordN L x))] ++ lanO L) (fun _ => True) trivial ?_ ?_ ?_)
    · have e0 : ordN L 0 = [] := rfl
      rw [e0, ← hlO]
      refine fitR hJ (C := C) (p := 2) (hs := [1, 0]) hLl rfl rfl (by decide) (fun h hh => .inl (by revert h; decide)) (fun c l hl => ?_) ?_ ?_
      · simp only [List.getElem?_cons_succ]
        exact lanO_get hl
      · simp only [FitM, List.getElem?_cons_zero, List.getElem?_cons_succ]
        exact ⟨olO [1, 0] rfl, .inl rfl, trivial⟩
      · simp only [FitE, Le, LeL, List.cons_append, List.nil_append] <;> (try (simp (maxSteps := 2000000) -implicitDefEqProofs only [o_sl, o_grows, o_kill, o_len, o_cap, o_isl, o_le, o_cells, o_one, oOk_c, oOk_o, oO_cells, oO_own, oV_s, oV_0, oO_nil, oO_iL, iL_nil, iL_snoc, List.length_append, s_alt, s_alt20, s_alt2t, s_alt2f, ↓s_loopi, ↓v_pq, ↓PRE, POST, CORE, Nat.reduceDiv, Nat.reduceMod, Int.reduceLT, Int.reduceLE, Int.reduceToNat, Int.reduceAdd, ↓reduceIte, Nat.reduceEqDiff, Nat.reduceAdd, Nat.reduceMul, Nat.reduceSub, Nat.reduceLeDiff, Nat.reduceLT, reduceCtorEq, if_true, eq_self, forall_const, implies_true])) <;> (try simp only [Sz.Le, Sz.LeL, List.getElem?_cons_zero, List.getElem?_cons_succ]) <;> (try simp)
    · intro x hx _
      have hx5 : x ≤ 100000 := by omega
      have hw : IntKind.i64.wrap ((x : Int) + 1) = (x : Int) + 1 := Sz.w_64 (by omega) (by omega)
      simp (maxSteps := 2000000) -implicitDefEqProofs only [o_sl, o_grows, o_kill, o_len, o_cap, o_isl, o_le, o_cells, o_one, oOk_c, oOk_o, oO_cells, oO_own, oV_s, oV_0, oO_nil, oO_iL, iL_nil, iL_snoc, List.length_append, s_alt, s_alt20, s_alt2t, s_alt2f, ↓s_loopi, ↓v_pq, ↓PRE, POST, CORE, Nat.reduceDiv, Nat.reduceMod, Int.reduceLT, Int.reduceLE, Int.reduceToNat, Int.reduceAdd, ↓reduceIte, Nat.reduceEqDiff, Nat.reduceAdd, Nat.reduceMul, Nat.reduceSub, Nat.reduceLeDiff, Nat.reduceLT, reduceCtorEq, if_true, eq_self, forall_const, implies_true]
      refine TXi_of (TX_count (@g63' J) C (fun c => [(5, .row 0 0 C 1), (6, oV 1 1 (ordN L x ++ rowAt (L.take c) x).length), (7, .v (.int .i64 (x : Int))), (8, .v (.int .i64 ((ordN L x).length : Int))), (18, .row 0 0 C 1), (19, .v (.int .i64 (C : Int))), (20, .v (.int .i64 (c : Int)))]) (fun c => [lO, oO (iL (ordN L x ++ rowAt (L.take c) x))] ++ lanO L) (fun _ => True) trivial ?_ ?_ ?_)
      · have e0 : rowAt (L.take 0) x = [] := rfl
        rw [e0, List.append_nil]
        refine fitR hJ (C := C) (p := 2) (hs := [0, 1]) hLl rfl rfl (by decide) (fun h hh => .inl (by revert h; decide)) (fun c l hl => ?_) ?_ ?_
        · simp only [List.getElem?_cons_succ]
          exact lanO_get hl
        · simp only [FitM, List.getElem?_cons_zero, List.getElem?_cons_succ]
          exact ⟨olO [0, 1] rfl, oO_le (by show LeL _ (iL _) (iL _); rw [iL_le]; trivial), trivial⟩
        · simp only [FitE, Le, LeL, List.cons_append, List.nil_append] <;> (try (simp (maxSteps := 2000000) -implicitDefEqProofs only [o_sl, o_grows, o_kill, o_len, o_cap, o_isl, o_le, o_cells, o_one, oOk_c, oOk_o, oO_cells, oO_own, oV_s, oV_0, oO_nil, oO_iL, iL_nil, iL_snoc, List.length_append, s_alt, s_alt20, s_alt2t, s_alt2f, ↓s_loopi, ↓v_pq, ↓PRE, POST, CORE, Nat.reduceDiv, Nat.reduceMod, Int.reduceLT, Int.reduceLE, Int.reduceToNat, Int.reduceAdd, ↓reduceIte, Nat.reduceEqDiff, Nat.reduceAdd, Nat.reduceMul, Nat.reduceSub, Nat.reduceLeDiff, Nat.reduceLT, reduceCtorEq, if_true, eq_self, forall_const, implies_true])) <;> (try simp only [Sz.Le, Sz.LeL, List.getElem?_cons_zero, List.getElem?_cons_succ]) <;> (try simp)
      · intro c hc _
        obtain ⟨l, hl⟩ : ∃ l, L[c]? = some l := ⟨_, List.getElem?_eq_getElem (by omega)⟩
        have hll := hLb l (List.mem_of_getElem? hl)
        have k0 : (0 : Int) ≤ (c : Int) := by omega
        have k1 : (c : Int) < (C : Int) := by omega
        have k2 : c + 1 ≤ C := hc
        have w1 : IntKind.i64.wrap ((c : Int) + 1) = (c : Int) + 1 := Sz.w_64 (by omega) (by omega)
        rw [take_snoc hl, rowAt_snoc, ← List.append_assoc]
        have hob : (ordN L x ++ rowAt (L.take c) x).length ≤ 13000000 := by
          have q1 := ordN_len L x
          have q2 := rowAt_len (L.take c) x
          rw [List.length_take] at q2
          have q3 : x * L.length ≤ 100000 * 64 := Nat.mul_le_mul hx5 (by omega)
          rw [List.length_append]
          omega
        generalize ordN L x ++ rowAt (L.take c) x = O at hob ⊢
        have hgc := @lanC_get 2 c L l hl
        have hgo := @lanO_get c L l hl
        have hatc : ∀ t, (lanO L ++ t)[c]? = some (oO (iL l)) := fun t => by rw [List.getElem?_append_left (by rw [hTl]; omega)]; exact hgo
        by_cases hxl : x < l.length
        · obtain ⟨b, hb⟩ : ∃ b, l[x]? = some b := ⟨_, List.getElem?_eq_getElem hxl⟩
          have j1 : (x : Int) < (l.length : Int) := by omega
          have j0 : (0 : Int) ≤ (x : Int) := by omega
          have j2 : x + 1 ≤ l.length := hxl
          have hbx : (iL l)[x]? = some (.v (.int .i64 b)) := by unfold iL; rw [List.getElem?_map, hb]; rfl
          have k3 : O.length + 1 ≤ maxLen := by unfold maxLen; omega
          have k4 : (O.length + 1) * 8 ≤ 140737488355328 := by omega
          have hat0 : ∀ (a : SObj) t, (lanO L ++ a :: t)[C]? = some a := fun a t => by rw [← hTl]; simp
          have hat1 : ∀ (a d : SObj) t, (lanO L ++ a :: d :: t)[C + 1]? = some d := fun a d t => by rw [← hTl, List.getElem?_append_right (by omega)]; simp
          rw [hb, hlO]
          simp (maxSteps := 2000000) -implicitDefEqProofs only [w1, k0, k1, k2, k3, k4, j0, j1, j2, hgc, hgo, hatc, hat0, hbx, hTl, hCl, List.append_assoc, o_sl, o_grows, o_kill, o_len, o_cap, o_isl, o_le, o_cells, o_one, oOk_c, oOk_o, oO_cells, oO_own, oV_s, oV_0, oO_nil, oO_iL, iL_nil, iL_snoc, List.length_append, iL_fold, iL_over, iL_all, iL_get, iL_len, iL_take, iL_drop, iL_one, iL_plain, iL_le, List.length_set, s_alt, s_alt20, s_alt2t, s_alt2f, ↓s_loopi, ↓v_pq, ↓PRE, POST, CORE, Nat.reduceDiv, Nat.reduceMod, Int.reduceLT, Int.reduceLE, Int.reduceToNat, Int.reduceAdd, ↓reduceIte, Nat.reduceEqDiff, Nat.reduceAdd, Nat.reduceMul, Nat.reduceSub, Nat.reduceLeDiff, Nat.reduceLT, reduceCtorEq, if_true, eq_self, forall_const, implies_true]
          rw [← hlO, show (some b).toList = [b] from rfl]
          refine fitR hJ (C := C) (p := 2) (hs := [0, C + 3]) (heads := [lO, oO (iL (O ++ [b]))]) hLl rfl rfl (by simp) (fun h hh => by simp only [List.mem_cons, List.mem_nil_iff, or_false] at hh; omega) (fun c l hl => ?_) ?_ ?_
          · simp only [List.getElem?_cons_succ]
            rw [List.getElem?_append_left (by rw [hTl]; have := some_lt hl; omega)]
            exact lanO_get hl
          · simp only [FitM, List.getElem?_cons_zero, List.getElem?_cons_succ, hat1]
            exact ⟨olO [0, C + 3] rfl, by rw [oO_al (by simp)]; exact .inr ⟨fun h => h, by show LeL _ (iL _) (iL _); rw [iL_le]; trivial, trivial⟩, trivial⟩
          · have e9 : (O.length + [b].length : Nat) = O.length + 1 := rfl
            rw [e9]
            simp only [FitE, Le, LeL, List.cons_append, List.nil_append] <;> (try (simp (maxSteps := 2000000) -implicitDefEqProofs only [o_sl, o_grows, o_kill, o_len, o_cap, o_isl, o_le, o_cells, o_one, oOk_c, oOk_o, oO_cells, oO_own, oV_s, oV_0, oO_nil, oO_iL, iL_nil, iL_snoc, List.length_append, s_alt, s_alt20, s_alt2t, s_alt2f, ↓s_loopi, ↓v_pq, ↓PRE, POST, CORE, Nat.reduceDiv, Nat.reduceMod, Int.reduceLT, Int.reduceLE, Int.reduceToNat, Int.reduceAdd, ↓reduceIte, Nat.reduceEqDiff, Nat.reduceAdd, Nat.reduceMul, Nat.reduceSub, Nat.reduceLeDiff, Nat.reduceLT, reduceCtorEq, if_true, eq_self, forall_const, implies_true])) <;> (try simp only [Sz.Le, Sz.LeL, List.getElem?_cons_zero, List.getElem?_cons_succ]) <;> (try simp)
        · have j1 : ¬ (x : Int) < (l.length : Int) := by omega
          have hb : l[x]? = none := List.getElem?_eq_none (by omega)
          rw [hb, hlO]
          simp (maxSteps := 2000000) -implicitDefEqProofs only [w1, k0, k1, k2, j1, hgc, hgo, hCl, o_sl, o_grows, o_kill, o_len, o_cap, o_isl, o_le, o_cells, o_one, oOk_c, oOk_o, oO_cells, oO_own, oV_s, oV_0, oO_nil, oO_iL, iL_nil, iL_snoc, List.length_append, Option.toList_none, List.append_nil, s_alt, s_alt20, s_alt2t, s_alt2f, ↓s_loopi, ↓v_pq, ↓PRE, POST, CORE, Nat.reduceDiv, Nat.reduceMod, Int.reduceLT, Int.reduceLE, Int.reduceToNat, Int.reduceAdd, ↓reduceIte, Nat.reduceEqDiff, Nat.reduceAdd, Nat.reduceMul, Nat.reduceSub, Nat.reduceLeDiff, Nat.reduceLT, reduceCtorEq, if_true, eq_self, forall_const, implies_true]
          rw [← hlO]
          refine fitR hJ (C := C) (p := 2) (hs := [0, 1]) (heads := [lO, oO (iL O)]) hLl rfl rfl (by decide) (fun h hh => .inl (by revert h; decide)) (fun c l hl => ?_) ?_ ?_
          · simp only [List.getElem?_cons_succ]
            exact lanO_get hl
          · simp only [FitM, List.getElem?_cons_zero, List.getElem?_cons_succ]
            exact ⟨olO [0, 1] rfl, oO_le (by show LeL _ (iL _) (iL _); rw [iL_le]; trivial), trivial⟩
          · simp only [FitE, Le, LeL, List.cons_append, List.nil_append] <;> (try (simp (maxSteps := 2000000) -implicitDefEqProofs only [o_sl, o_grows, o_kill, o_len, o_cap, o_isl, o_le, o_cells, o_one, oOk_c, oOk_o, oO_cells, oO_own, oV_s, oV_0, oO_nil, oO_iL, iL_nil, iL_snoc, List.length_append, s_alt, s_alt20, s_alt2t, s_alt2f, ↓s_loopi, ↓v_pq, ↓PRE, POST, CORE, Nat.reduceDiv, Nat.reduceMod, Int.reduceLT, Int.reduceLE, Int.reduceToNat, Int.reduceAdd, ↓reduceIte, Nat.reduceEqDiff, Nat.reduceAdd, Nat.reduceMul, Nat.reduceSub, Nat.reduceLeDiff, Nat.reduceLT, reduceCtorEq, if_true, eq_self, forall_const, implies_true])) <;> (try simp only [Sz.Le, Sz.LeL, List.getElem?_cons_zero, List.getElem?_cons_succ]) <;> (try simp)
      · intro _
        have k1 : ¬ (C : Int) < (C : Int) := by omega
        have e0 : ordN L x ++ rowAt (L.take C) x = ordN L (x + 1) := by rw [← hLl, List.take_length, ordN_succ]
        rw [e0]
        have hne : (((ordN L (x + 1)).length : Int) == ((ordN L x).length : Int)) = false := by
          have h1 := hD1 x hx
          have h2 : (rowAt L x).length ≠ 0 := fun h => h1 (List.length_eq_zero_iff.1 h)
          rw [ordN_succ, List.length_append]
          simp only [beq_eq_false_iff_ne, ne_eq]
          omega
        rw [hlO]
        simp (maxSteps := 2000000) -implicitDefEqProofs only [k1, hne, hw, o_sl, o_grows, o_kill, o_len, o_cap, o_isl, o_le, o_cells, o_one, oOk_c, oOk_o, oO_cells, oO_own, oV_s, oV_0, oO_nil, oO_iL, iL_nil, iL_snoc, List.length_append, s_alt, s_alt20, s_alt2t, s_alt2f, ↓s_loopi, ↓v_pq, ↓PRE, POST, CORE, Nat.reduceDiv, Nat.reduceMod, Int.reduceLT, Int.reduceLE, Int.reduceToNat, Int.reduceAdd, ↓reduceIte, Nat.reduceEqDiff, Nat.reduceAdd, Nat.reduceMul, Nat.reduceSub, Nat.reduceLeDiff, Nat.reduceLT, reduceCtorEq, if_true, eq_self, forall_const, implies_true]
        rw [← hlO]
        refine fitR hJ (C := C) (p := 2) (hs := [0, 1]) (heads := [lO, oO (iL (ordN L (x + 1)))]) hLl rfl rfl (by decide) (fun h hh => .inl (by revert h; decide)) (fun c l hl => ?_) ?_ ?_
        · simp only [List.getElem?_cons_succ]
          exact lanO_get hl
        · simp only [FitM, List.getElem?_cons_zero, List.getElem?_cons_succ]
          exact ⟨olO [0, 1] rfl, oO_le (by show LeL _ (iL _) (iL _); rw [iL_le]; trivial), trivial⟩
        · simp only [FitE, Le, LeL, List.cons_append, List.nil_append] <;> (try (simp (maxSteps := 2000000) -implicitDefEqProofs only [o_sl, o_grows, o_kill, o_len, o_cap, o_isl, o_le, o_cells, o_one, oOk_c, oOk_o, oO_cells, oO_own, oV_s, oV_0, oO_nil, oO_iL, iL_nil, iL_snoc, List.length_append, s_alt, s_alt20, s_alt2t, s_alt2f, ↓s_loopi, ↓v_pq, ↓PRE, POST, CORE, Nat.reduceDiv, Nat.reduceMod, Int.reduceLT, Int.reduceLE, Int.reduceToNat, Int.reduceAdd, ↓reduceIte, Nat.reduceEqDiff, Nat.reduceAdd, Nat.reduceMul, Nat.reduceSub, Nat.reduceLeDiff, Nat.reduceLT, reduceCtorEq, if_true, eq_self, forall_const, implies_true])) <;> (try simp only [Sz.Le, Sz.LeL, List.getElem?_cons_zero, List.getElem?_cons_succ]) <;> (try simp)
    · intro _
      simp (maxSteps := 2000000) -implicitDefEqProofs only [o_sl, o_grows, o_kill, o_len, o_cap, o_isl, o_le, o_cells, o_one, oOk_c, oOk_o, oO_cells, oO_own, oV_s, oV_0, oO_nil, oO_iL, iL_nil, iL_snoc, List.length_append, s_alt, s_alt20, s_alt2t, s_alt2f, ↓s_loopi, ↓v_pq, ↓PRE, POST, CORE, Nat.reduceDiv, Nat.reduceMod, Int.reduceLT, Int.reduceLE, Int.reduceToNat, Int.reduceAdd, ↓reduceIte, Nat.reduceEqDiff, Nat.reduceAdd, Nat.reduceMul, Nat.reduceSub, Nat.reduceLeDiff, Nat.reduceLT, reduceCtorEq, if_true, eq_self, forall_const, implies_true]
      refine TXi_of (TX_count (@g63' J) C (fun c => [(5, .row 0 0 C 1), (6, oV 1 1 (ordN L D ++ rowAt (L.take c) D).length), (7, .v (.int .i64 (D : Int))), (8, .v (.int .i64 ((ordN L D).length : Int))), (18, .row 0 0 C 1), (19, .v (.int .i64 (C : Int))), (20, .v (.int .i64 (c : Int)))]) (fun c => [lO, oO (iL (ordN L D ++ rowAt (L.take c) D))] ++ lanO L) (fun _ => True) trivial ?_ ?_ ?_)
      · have e0 : rowAt (L.take 0) D = [] := rfl
        rw [e0, List.append_nil]
        refine fitR hJ (C := C) (p := 2) (hs := [0, 1]) hLl rfl rfl (by decide) (fun h hh => .inl (by revert h; decide)) (fun c l hl => ?_) ?_ ?_
        · simp only [List.getElem?_cons_succ]
          exact lanO_get hl
        · simp only [FitM, List.getElem?_cons_zero, List.getElem?_cons_succ]
          exact ⟨olO [0, 1] rfl, oO_le (by show LeL _ (iL _) (iL _); rw [iL_le]; trivial), trivial⟩
        · simp only [FitE, Le, LeL, List.cons_append, List.nil_append] <;> (try (simp (maxSteps := 2000000) -implicitDefEqProofs only [o_sl, o_grows, o_kill, o_len, o_cap, o_isl, o_le, o_cells, o_one, oOk_c, oOk_o, oO_cells, oO_own, oV_s, oV_0, oO_nil, oO_iL, iL_nil, iL_snoc, List.length_append, s_alt, s_alt20, s_alt2t, s_alt2f, ↓s_loopi, ↓v_pq, ↓PRE, POST, CORE, Nat.reduceDiv, Nat.reduceMod, Int.reduceLT, Int.reduceLE, Int.reduceToNat, Int.reduceAdd, ↓reduceIte, Nat.reduceEqDiff, Nat.reduceAdd, Nat.reduceMul, Nat.reduceSub, Nat.reduceLeDiff, Nat.reduceLT, reduceCtorEq, if_true, eq_self, forall_const, implies_true])) <;> (try simp only [Sz.Le, Sz.LeL, List.getElem?_cons_zero, List.getElem?_cons_succ]) <;> (try simp)
      · intro c hc _
        obtain ⟨l, hl⟩ : ∃ l, L[c]? = some l := ⟨_, List.getElem?_eq_getElem (by omega)⟩
        have hll := hLb l (List.mem_of_getElem? hl)
        have k0 : (0 : Int) ≤ (c : Int) := by omega
        have k1 : (c : Int) < (C : Int) := by omega
        have k2 : c + 1 ≤ C := hc
        have w1 : IntKind.i64.wrap ((c : Int) + 1) = (c : Int) + 1 := Sz.w_64 (by omega) (by omega)
        rw [take_snoc hl, rowAt_snoc, ← List.append_assoc]
        have hob : (ordN L D ++ rowAt (L.take c) D).length ≤ 13000000 := by
          have q1 := ordN_len L D
          have q2 := rowAt_len (L.take c) D
          rw [List.length_take] at q2
          have q3 : D * L.length ≤ 100000 * 64 := Nat.mul_le_mul hD (by omega)
          rw [List.length_append]
          omega
        generalize ordN L D ++ rowAt (L.take c) D = O at hob ⊢
        have hgc := @lanC_get 2 c L l hl
        have hgo := @lanO_get c L l hl
        have hatc : ∀ t, (lanO L ++ t)[c]? = some (oO (iL l)) := fun t => by rw [List.getElem?_append_left (by rw [hTl]; omega)]; exact hgo
        by_cases hxl : D < l.length
        · obtain ⟨b, hb⟩ : ∃ b, l[D]? = some b := ⟨_, List.getElem?_eq_getElem hxl⟩
          have j1 : (D : Int) < (l.length : Int) := by omega
          have j0 : (0 : Int) ≤ (D : Int) := by omega
          have j2 : D + 1 ≤ l.length := hxl
          have hbx : (iL l)[D]? = some (.v (.int .i64 b)) := by unfold iL; rw [List.getElem?_map, hb]; rfl
          have k3 : O.length + 1 ≤ maxLen := by unfold maxLen; omega
          have k4 : (O.length + 1) * 8 ≤ 140737488355328 := by omega
          have hat0 : ∀ (a : SObj) t, (lanO L ++ a :: t)[C]? = some a := fun a t => by rw [← hTl]; simp
          have hat1 : ∀ (a d : SObj) t, (lanO L ++ a :: d :: t)[C + 1]? = some d := fun a d t => by rw [← hTl, List.getElem?_append_right (by omega)]; simp
          rw [hb, hlO]
          simp (maxSteps := 2000000) -implicitDefEqProofs only [w1, k0, k1, k2, k3, k4, j0, j1, j2, hgc, hgo, hatc, hat0, hbx, hTl, hCl, List.append_assoc, o_sl, o_grows, o_kill, o_len, o_cap, o_isl, o_le, o_cells, o_one, oOk_c, oOk_o, oO_cells, oO_own, oV_s, oV_0, oO_nil, oO_iL, iL_nil, iL_snoc, List.length_append, iL_fold, iL_over, iL_all, iL_get, iL_len, iL_take, iL_drop, iL_one, iL_plain, iL_le, List.length_set, s_alt, s_alt20, s_alt2t, s_alt2f, ↓s_loopi, ↓v_pq, ↓PRE, POST, CORE, Nat.reduceDiv, Nat.reduceMod, Int.reduceLT, Int.reduceLE, Int.reduceToNat, Int.reduceAdd, ↓reduceIte, Nat.reduceEqDiff, Nat.reduceAdd, Nat.reduceMul, Nat.reduceSub, Nat.reduceLeDiff, Nat.reduceLT, reduceCtorEq, if_true, eq_self, forall_const, implies_true]
          rw [← hlO, show (some b).toList = [b] from rfl]
          refine fitR hJ (C := C) (p := 2) (hs := [0, C + 3]) (heads := [lO, oO (iL (O ++ [b]))]) hLl rfl rfl (by simp) (fun h hh => by simp only [List.mem_cons, List.mem_nil_iff, or_false] at hh; omega) (fun c l hl => ?_) ?_ ?_
          · simp only [List.getElem?_cons_succ]
            rw [List.getElem?_append_left (by rw [hTl]; have := some_lt hl; omega)]
            exact lanO_get hl
          · simp only [FitM, List.getElem?_cons_zero, List.getElem?_cons_succ, hat1]
            exact ⟨olO [0, C + 3] rfl, by rw [oO_al (by simp)]; exact .inr ⟨fun h => h, by show LeL _ (iL _) (iL _); rw [iL_le]; trivial, trivial⟩, trivial⟩
          · have e9 : (O.length + [b].length : Nat) = O.length + 1 := rfl
            rw [e9]
            simp only [FitE, Le, LeL, List.cons_append, List.nil_append] <;> (try (simp (maxSteps := 2000000) -implicitDefEqProofs only [o_sl, o_grows, o_kill, o_len, o_cap, o_isl, o_le, o_cells, o_one, oOk_c, oOk_o, oO_cells, oO_own, oV_s, oV_0, oO_nil, oO_iL, iL_nil, iL_snoc, List.length_append, s_alt, s_alt20, s_alt2t, s_alt2f, ↓s_loopi, ↓v_pq, ↓PRE, POST, CORE, Nat.reduceDiv, Nat.reduceMod, Int.reduceLT, Int.reduceLE, Int.reduceToNat, Int.reduceAdd, ↓reduceIte, Nat.reduceEqDiff, Nat.reduceAdd, Nat.reduceMul, Nat.reduceSub, Nat.reduceLeDiff, Nat.reduceLT, reduceCtorEq, if_true, eq_self, forall_const, implies_true])) <;> (try simp only [Sz.Le, Sz.LeL, List.getElem?_cons_zero, List.getElem?_cons_succ]) <;> (try simp)
        · have j1 : ¬ (D : Int) < (l.length : Int) := by omega
          have hb : l[D]? = none := List.getElem?_eq_none (by omega)
          rw [hb, hlO]
          simp (maxSteps := 2000000) -implicitDefEqProofs only [w1, k0, k1, k2, j1, hgc, hgo, hCl, o_sl, o_grows, o_kill, o_len, o_cap, o_isl, o_le, o_cells, o_one, oOk_c, oOk_o, oO_cells, oO_own, oV_s, oV_0, oO_nil, oO_iL, iL_nil, iL_snoc, List.length_append, Option.toList_none, List.append_nil, s_alt, s_alt20, s_alt2t, s_alt2f, ↓s_loopi, ↓v_pq, ↓PRE, POST, CORE, Nat.reduceDiv, Nat.reduceMod, Int.reduceLT, Int.reduceLE, Int.reduceToNat, Int.reduceAdd, ↓reduceIte, Nat.reduceEqDiff, Nat.reduceAdd, Nat.reduceMul, Nat.reduceSub, Nat.reduceLeDiff, Nat.reduceLT, reduceCtorEq, if_true, eq_self, forall_const, implies_true]
          rw [← hlO]
          refine fitR hJ (C := C) (p := 2) (hs := [0, 1]) (heads := [lO, oO (iL O)]) hLl rfl rfl (by decide) (fun h hh => .inl (by revert h; decide)) (fun c l hl => ?_) ?_ ?_
          · simp only [List.getElem?_cons_succ]
            exact lanO_get hl
          · simp only [FitM, List.getElem?_cons_zero, List.getElem?_cons_succ]
            exact ⟨olO [0, 1] rfl, oO_le (by show LeL _ (iL _) (iL _); rw [iL_le]; trivial), trivial⟩
          · simp only [FitE, Le, LeL, List.cons_append, List.nil_append] <;> (try (simp (maxSteps := 2000000) -implicitDefEqProofs only [o_sl, o_grows, o_kill, o_len, o_cap, o_isl, o_le, o_cells, o_one, oOk_c, oOk_o, oO_cells, oO_own, oV_s, oV_0, oO_nil, oO_iL, iL_nil, iL_snoc, List.length_append, s_alt, s_alt20, s_alt2t, s_alt2f, ↓s_loopi, ↓v_pq, ↓PRE, POST, CORE, Nat.reduceDiv, Nat.reduceMod, Int.reduceLT, Int.reduceLE, Int.reduceToNat, Int.reduceAdd, ↓reduceIte, Nat.reduceEqDiff, Nat.reduceAdd, Nat.reduceMul, Nat.reduceSub, Nat.reduceLeDiff, Nat.reduceLT, reduceCtorEq, if_true, eq_self, forall_const, implies_true])) <;> (try simp only [Sz.Le, Sz.LeL, List.getElem?_cons_zero, List.getElem?_cons_succ]) <;> (try simp)
      · intro _
        have k1 : ¬ (C : Int) < (C : Int) := by omega
        have e0 : ordN L D ++ rowAt (L.take C) D = ordN L (D + 1) := by rw [← hLl, List.take_length, ordN_succ]
        rw [e0, ordN_succ, hD0, List.append_nil]
        have hee : (((ordN L D).length : Int) == ((ordN L D).length : Int)) = true := by simp
        rw [hlO]
        simp (maxSteps := 2000000) -implicitDefEqProofs only [k1, hee, o_sl, o_grows, o_kill, o_len, o_cap, o_isl, o_le, o_cells, o_one, oOk_c, oOk_o, oO_cells, oO_own, oV_s, oV_0, oO_nil, oO_iL, iL_nil, iL_snoc, List.length_append, s_alt, s_alt20, s_alt2t, s_alt2f, ↓s_loopi, ↓v_pq, ↓PRE, POST, CORE, Nat.reduceDiv, Nat.reduceMod, Int.reduceLT, Int.reduceLE, Int.reduceToNat, Int.reduceAdd, ↓reduceIte, Nat.reduceEqDiff, Nat.reduceAdd, Nat.reduceMul, Nat.reduceSub, Nat.reduceLeDiff, Nat.reduceLT, reduceCtorEq, if_true, eq_self, forall_const, implies_true]
        refine fin_int (ordN L D) _ _ 1 (fun h => by rw [h]; rfl) (fun h => ⟨by unfold oV; rw [if_neg (fun q => h (List.length_eq_zero_iff.1 q))], ?_⟩) hk
        simp only [List.getElem?_cons_zero, List.getElem?_cons_succ]
        rw [oO_al h]
end St
end Go.Proofs.Ytibefgdjijmncaa
end
section
namespace Go.Proofs.Ytibefgdjijmncaa
open Go.RowKit Sz
set_option maxHeartbeats 8000000
set_option maxRecDepth 20000
namespace St
-- almshouse/stripe.Loads (2 parameters)
def x23 : XC := (.seq (.tree (.seq ⟨some 2, none, (.box (.tmp 0))⟩
 (.seq ⟨some 4, none, (.ofA (.mv (.cst (.v (.slice none 0 0)))))⟩
 .done)))
 (.seq (.seq (.tree (.seq ⟨some 8, none, (.ofA (.load (some 4) (.tmp 2)))⟩
 (.seq ⟨some 9, none, (.call (.cst (.fn 53 [])) [(.tmp 8)])⟩
 (.seq ⟨some 10, none, (.ofA (.bin .neq (.tmp 9) (.cst (.v (.int .i64 0)))))⟩
 .done))))
 (.cond (.tmp 10)
 (.seq (.tree (.seq ⟨some 4, none, (.ofA (.mv (.cst (.v (.slice none 0 0)))))⟩
 .done))
 .ret)
 .skip))
 (.seq (.tree (.seq ⟨some 11, none, (.ofA (.faddr 0 (.tmp 2)))⟩
 (.seq ⟨some 12, none, (.ofA (.load none (.tmp 11)))⟩
 (.seq ⟨some 13, none, (.mkSl 1 8 [(.v (.int .i64 0))] (.tmp 12) (.tmp 12))⟩
 (.seq ⟨some 5, none, (.ofA (.mv (.tmp 13)))⟩
 .done)))))
 (.seq (.seq (.tree (.seq ⟨some 14, none, (.ofA (.mv (.tmp 1)))⟩
 (.seq ⟨some 15, none, (.ofA (.len (.tmp 14)))⟩
 (.seq ⟨some 16, none, (.ofA (.mv (.cst (.v (.int .i64 0)))))⟩
 .done))))
 (.block 0 (.loop (.seq (.tree (.seq ⟨some 17, none, (.ofA (.bin .lss (.tmp 16) (.tmp 15)))⟩
 .done))
 (.seq (.cond (.tmp 17)
 .skip
 (.exit 0))
 (.seq (.block 1 (.seq (.tree (.seq ⟨some 18, none, (.ofA (.isl 1 (.tmp 14) (.tmp 16)))⟩
 (.seq ⟨some 19, none, (.ofA (.load none (.tmp 18)))⟩
 (.seq ⟨some 7, none, (.ofA (.mv (.tmp 19)))⟩
 .done))))
 (.seq (.tree (.seq ⟨some 20, none, (.ofA (.mv (.tmp 7)))⟩
 (.seq ⟨some 21, none, (.ofA (.bin .geq (.tmp 20) (.cst (.v (.int .i64 0)))))⟩
 (.seq ⟨some 22, none, (.ofA (.mv (.tmp 21)))⟩
 (.seq ⟨some 23, some (22, true), (.ofA (.mv (.tmp 7)))⟩
 (.seq ⟨some 24, some (22, true), (.ofA (.load (some 4) (.tmp 2)))⟩
 (.seq ⟨some 25, some (22, true), (.call (.cst (.fn 55 [])) [(.tmp 24)])⟩
 (.seq ⟨some 26, some (22, true), (.ofA (.bin .lss (.tmp 23) (.tmp 25)))⟩
 (.seq ⟨some 27, none, (.ofA (.pick (.tmp 22) (.tmp 26) (.cst (.v (.bool false)))))⟩
 .done)))))))))
 (.cond (.tmp 27)
 (.tree (.seq ⟨some 28, none, (.ofA (.mv (.tmp 5)))⟩
 (.seq ⟨some 29, none, (.ofA (.mv (.tmp 7)))⟩
 (.seq ⟨some 30, none, (.ofA (.faddr 0 (.tmp 2)))⟩
 (.seq ⟨some 31, none, (.ofA (.load none (.tmp 30)))⟩
 (.seq ⟨some 32, none, (.ofA (.bin .rem (.tmp 29) (.tmp 31)))⟩
 (.seq ⟨some 33, none, (.ofA (.isl 1 (.tmp 28) (.tmp 32)))⟩
 (.seq ⟨some 34, none, (.ofA (.load none (.tmp 33)))⟩
 (.seq ⟨some 35, none, (.ofA (.bin .add (.tmp 34) (.cst (.v (.int .i64 1)))))⟩
 (.seq ⟨some 36, none, (.ofA (.isl 1 (.tmp 28) (.tmp 32)))⟩
 (.seq ⟨none, none, (.store 1 (.tmp 36) (.tmp 35))⟩
 .done)))))))))))
 .skip))))
 (.tree (.seq ⟨some 37, none, (.ofA (.bin .add (.tmp 16) (.cst (.v (.int .i64 1)))))⟩
 (.seq ⟨some 16, none, (.ofA (.mv (.tmp 37)))⟩
 .done)))))))))
 (.seq (.tree (.seq ⟨some 38, none, (.ofA (.mv (.tmp 5)))⟩
 (.seq ⟨some 4, none, (.ofA (.mv (.tmp 38)))⟩
 .done)))
 .ret)))))
def r23 : List XR := [.tmp 4]
theorem fn23 : FnX Try.prog 23 [64, 106] 39 x23 r23 := ⟨_, Try.func23, by kernel_rfl, by kernel_rfl, by kernel_rfl, by kernel_rfl⟩
-- almshouse/stripe.Even (2 parameters)
def x24 : XC := (.seq (.tree (.seq ⟨some 2, none, (.box (.tmp 0))⟩
 (.seq ⟨some 4, none, (.ofA (.mv (.cst (.v (.bool false)))))⟩
 .done)))
 (.seq (.tree (.seq ⟨some 6, none, (.ofA (.load (some 4) (.tmp 2)))⟩
 (.seq ⟨some 7, none, (.ofA (.mv (.tmp 1)))⟩
 (.seq ⟨some 8, none, (.call (.cst (.fn 23 [])) [(.tmp 6), (.tmp 7)])⟩
 (.seq ⟨some 5, none, (.ofA (.mv (.tmp 8)))⟩
 .done)))))
 (.seq (.tree (.seq ⟨some 9, none, (.ofA (.mv (.tmp 5)))⟩
 (.seq ⟨some 10, none, (.ofA (.len (.tmp 9)))⟩
 (.seq ⟨some 11, none, (.ofA (.bin .eql (.tmp 10) (.cst (.v (.int .i64 0)))))⟩
 (.seq ⟨some 12, none, (.ofA (.mv (.tmp 11)))⟩
 (.seq ⟨some 13, some (12, false), (.ofA (.mv (.tmp 5)))⟩
 (.seq ⟨some 14, some (12, false), (.call (.cst (.fn 65 [])) [(.tmp 13)])⟩
 (.seq ⟨some 15, some (12, false), (.ofA (.mv (.tmp 5)))⟩
 (.seq ⟨some 16, some (12, false), (.call (.cst (.fn 66 [])) [(.tmp 15)])⟩
 (.seq ⟨some 17, some (12, false), (.ofA (.bin .sub (.tmp 14) (.tmp 16)))⟩
 (.seq ⟨some 18, some (12, false), (.ofA (.bin .leq (.tmp 17) (.cst (.v (.int .i64 1)))))⟩
 (.seq ⟨some 19, none, (.ofA (.pick (.tmp 12) (.cst (.v (.bool true))) (.tmp 18)))⟩
 (.seq ⟨some 4, none, (.ofA (.mv (.tmp 19)))⟩
 .done)))))))))))))
 .ret)))
def r24 : List XR := [.tmp 4]
theorem fn24 : FnX Try.prog 24 [64, 106] 20 x24 r24 := ⟨_, Try.func24, by kernel_rfl, by kernel_rfl, by kernel_rfl, by kernel_rfl⟩
def loadF (g : Ge) (bs : List Int) (C : Nat) : List Int := (List.range C).map fun c => ((lan g bs c).length : Int)
theorem loadF_len (g : Ge) (bs : List Int) (C : Nat) : (loadF g bs C).length = C := by simp [loadF]
theorem loadF_get {g : Ge} {S : List Int} {C c : Nat} (h : c < C) : (loadF g S C)[c]? = some ((lan g S c).length : Int) := by
  unfold loadF
  rw [List.getElem?_map, List.getElem?_range h]
  rfl
theorem loadF_no {g : Ge} {S : List Int} {b : Int} {C : Nat} (h : okB g b = false) : loadF g (S ++ [b]) C = loadF g S C := by
  unfold loadF
  apply List.map_congr_left
  intro c _
  rw [lan_snoc]
  have : laneB g c b = false := by unfold laneB; rw [h]; rfl
  simp [this]
theorem loadF_at {g : Ge} {S : List Int} {b : Int} {C c : Nat} (h : okB g b = true) (hc : b.tmod g.ch = (c : Int)) : loadF g (S ++ [b]) C = (loadF g S C).set c (((lan g S c).length : Int) + 1) := by
  apply List.ext_getElem?
  intro i
  rw [List.getElem?_set]
  rcases Nat.lt_or_ge i C with hi | hi
  · rw [loadF_get hi, lan_snoc]
    by_cases e : c = i
    · subst e
      have : laneB g c b = true := by unfold laneB; rw [h, hc]; simp
      rw [if_pos this, if_pos rfl, if_pos (by rw [loadF_len]; exact hi)]
      simp
    · have : laneB g i b = false := by
        unfold laneB
        rw [h, hc]
        simp
        omega
      rw [if_neg e, loadF_get hi]
      simp [this]
  · rw [List.getElem?_eq_none (by rw [loadF_len]; exact hi)]
    by_cases e : c = i
    · subst e
      rw [if_pos rfl, if_neg (by rw [loadF_len]; omega)]
    · rw [if_neg e, List.getElem?_eq_none (by rw [loadF_len]; exact hi)]
theorem loadF_nil (g : Ge) (C : Nat) : loadF g [] C = List.replicate C 0 := by
  apply List.ext_getElem?
  intro i
  rcases Nat.lt_or_ge i C with hi | hi
  · rw [loadF_get hi, List.getElem?_replicate, if_pos hi]; rfl
  · rw [List.getElem?_eq_none (by rw [loadF_len]; exact hi), List.getElem?_eq_none (by simp; exact hi)]
theorem rep_iL (n : Nat) : (List.replicate n [SV.v (.int .i64 0)]).flatten = iL (List.replicate n 0) := by
  induction n with
  | zero => rfl
  | succ n ih => rw [List.replicate_succ, List.flatten_cons, ih, List.replicate_succ]; rfl
theorem lan_le (g : Ge) (S : List Int) (c : Nat) : (lan g S c).length ≤ S.length := List.length_filter_le _ _
def c23 [Inp] : Trans := fun args m k => ∃ (g : Ge) (s : SV) (bs : List Int), args = [.agg g.sv, s] ∧ rdI m s = some bs ∧ bs.length ≤ 100000 ∧
  (chkG g = false → k (.v (.slice none 0 0)) m) ∧ (chkG g = true → k (.row m.length 0 g.ch.toNat 1) (m ++ [⟨true, iL (loadF g bs g.ch.toNat)⟩]))
def G23 [Inp] : List CEntry := [⟨53, true, c53⟩, ⟨55, true, c55⟩]
theorem g23 [Inp] : GOk Try.prog G23 := GOk.cons c53_ok (GOk.cons c55_ok (g0 _))
theorem c23_ok [I : Inp] : Contract Try.prog 23 true c23 := by
  refine .readF fn23 (G := fun J => @G23 J) (fun J => @g23 J) _ fun args m k h => ?_
  obtain ⟨g, s, bs, rfl, hb, hmax, hk0, hk1⟩ := h
  refine ⟨by simp [Ge.sv], fun J hJ us hus => ?_⟩
  obtain ⟨u, t1, rfl, hu1, u2, t2, rfl, hu2, rfl⟩ := hus
  obtain rfl := hu1.2.1 g.vs rfl
  obtain ⟨p, cc, rfl, hin⟩ := rdI_knows hb hu2
  rw [List.map_cons, List.map_cons, List.map_nil, show SV.of (.agg g.vs.toArray) = _ from ge_of g]
  simp (maxSteps := 2000000) -implicitDefEqProofs only [↓x23, ↓r23, ↓G23, ↓c53, s_alt, s_alt20, s_alt2t, s_alt2f, ↓s_loopi, ↓v_pq, ↓PRE, POST, CORE, Nat.reduceDiv, Nat.reduceMod, Int.reduceLT, Int.reduceLE, Int.reduceToNat, Int.reduceAdd, ↓reduceIte, Nat.reduceEqDiff, Nat.reduceAdd, Nat.reduceMul, Nat.reduceSub, Nat.reduceLeDiff, Nat.reduceLT, reduceCtorEq, if_true, eq_self, forall_const, implies_true]
  refine ⟨g, rfl, fun e he => ?_⟩
  by_cases h0 : e = 0
  case neg =>
    have hg : chkG g = false := by simpa using fun h => h0 (he.2 h)
    have hne : (e != 0) = true := by simpa using h0
    simp (maxSteps := 2000000) -implicitDefEqProofs only [hne, s_alt, s_alt20, s_alt2t, s_alt2f, ↓s_loopi, ↓v_pq, ↓PRE, POST, CORE, Nat.reduceDiv, Nat.reduceMod, Int.reduceLT, Int.reduceLE, Int.reduceToNat, Int.reduceAdd, ↓reduceIte, Nat.reduceEqDiff, Nat.reduceAdd, Nat.reduceMul, Nat.reduceSub, Nat.reduceLeDiff, Nat.reduceLT, reduceCtorEq, if_true, eq_self, forall_const, implies_true]
    refine ⟨[], .v (.slice none 0 0), [], by simp, trivial, by simp, by simp only [Le], ?_⟩
    simpa [SV.up] using hk0 hg
  subst h0
  have hg := he.1 rfl
  have hk := hk1 hg
  obtain ⟨⟨⟨m1, m1'⟩, ⟨m2, m2'⟩, ⟨m3, m3'⟩, m4, m4'⟩, m5, m6⟩ := chk_in.1 hg
  have hnb : nB g = nG g := by unfold nB nG; rw [if_pos hg]
  have i1 : (0 : Int) ≤ g.ch := by omega
  have i2 : 8 * g.ch ≤ (281474976710656 : Int) := by omega
  have i3 : g.ch ≤ (9223372036854775807 : Int) := by omega
  simp (maxSteps := 2000000) -implicitDefEqProofs only [bne_self_eq_false, Bool.false_eq_true, i1, i2, i3, rep_iL, Int.le_refl, s_alt, s_alt20, s_alt2t, s_alt2f, ↓s_loopi, ↓v_pq, ↓PRE, POST, CORE, Nat.reduceDiv, Nat.reduceMod, Int.reduceLT, Int.reduceLE, Int.reduceToNat, Int.reduceAdd, ↓reduceIte, Nat.reduceEqDiff, Nat.reduceAdd, Nat.reduceMul, Nat.reduceSub, Nat.reduceLeDiff, Nat.reduceLT, reduceCtorEq, if_true, eq_self, forall_const, implies_true]
  obtain ⟨C, hC⟩ : ∃ C : Nat, g.ch = (C : Int) := ⟨g.ch.toNat, by omega⟩
  have hCt : g.ch.toNat = C := by omega
  rw [hCt] at hk ⊢
  refine TXi_of (TX_count (@g23 J) bs.length (fun x => [(2, .ptr 0 0), (5, .row 1 0 C 1), (14, .v (.slice p bs.length cc)), (15, .v (.int .i64 (bs.length : Int))), (16, .v (.int .i64 (x : Int)))]) (fun x => [⟨true, [.v (.int .i64 g.ch), .v (.int .i64 g.di), .v (.int .i64 g.bl), .v (.int .i64 g.pa)]⟩, ⟨true, iL (loadF g (bs.take x) C)⟩]) (fun _ => True) trivial ?_ ?_ ?_)
  · rw [List.take_zero, loadF_nil]
    exact (by refine ⟨[0, 1], by simp [NdL, NdA, oO_cells, oO_own, iL_nil], ?_, ?_, keep0 hJ⟩ <;> simp only [FitM, FitE, ObLe, LeL, Le, List.cons_append, List.nil_append] <;> (try (simp (maxSteps := 2000000) -implicitDefEqProofs only [iL_fold, iL_over, iL_all, iL_get, iL_len, iL_take, iL_drop, iL_one, iL_plain, iL_le, List.length_set, s_alt, s_alt20, s_alt2t, s_alt2f, ↓s_loopi, ↓v_pq, ↓PRE, POST, CORE, Nat.reduceDiv, Nat.reduceMod, Int.reduceLT, Int.reduceLE, Int.reduceToNat, Int.reduceAdd, ↓reduceIte, Nat.reduceEqDiff, Nat.reduceAdd, Nat.reduceMul, Nat.reduceSub, Nat.reduceLeDiff, Nat.reduceLT, reduceCtorEq, if_true, eq_self, forall_const, implies_true])) <;> (try simp only [Sz.Le, Sz.LeL, List.getElem?_cons_zero, List.getElem?_cons_succ]) <;> (try simp))
  · intro x hx _
    obtain ⟨b, hb0⟩ : ∃ b, bs[x]? = some b := ⟨_, List.getElem?_eq_getElem hx⟩
    have f : inpL (plusA p x) 1 = some [.int .i64 b] := inpI_at hin hb0
    have hp : p.isSome = true := inpL_isSome hin (by omega)
    have j0 : (0 : Int) ≤ (x : Int) := by omega
    have j1 : (x : Int) < (bs.length : Int) := by omega
    have w1 : IntKind.i64.wrap ((x : Int) + 1) = (x : Int) + 1 := Sz.w_64 (by omega) (by omega)
    rw [take_snoc hb0]
    have hSl : (bs.take x).length ≤ 100000 := by rw [List.length_take]; omega
    generalize bs.take x = S at hSl ⊢
    by_cases hb1 : 0 ≤ b
    · simp (maxSteps := 2000000) -implicitDefEqProofs only [j0, j1, f, hp, hb1, ↓G23, ↓c55, s_alt, s_alt20, s_alt2t, s_alt2f, ↓s_loopi, ↓v_pq, ↓PRE, POST, CORE, Nat.reduceDiv, Nat.reduceMod, Int.reduceLT, Int.reduceLE, Int.reduceToNat, Int.reduceAdd, ↓reduceIte, Nat.reduceEqDiff, Nat.reduceAdd, Nat.reduceMul, Nat.reduceSub, Nat.reduceLeDiff, Nat.reduceLT, reduceCtorEq, if_true, eq_self, forall_const, implies_true]
      refine ⟨g, rfl, ?_⟩
      rw [hnb]
      by_cases hb2 : b < nG g
      · have hok : okB g b = true := by unfold okB; simp [hb1, hb2]
        obtain ⟨c0, hc0, hc0C⟩ : ∃ c0 : Nat, b.tmod g.ch = (c0 : Int) ∧ c0 < C := by
          have h1 := Int.tmod_nonneg g.ch hb1
          have h2 := Int.tmod_lt_of_pos b (b := g.ch) (by omega)
          exact ⟨(b.tmod g.ch).toNat, by omega, by omega⟩
        rw [loadF_at hok hc0]
        have hq := @loadF_get g S C c0 hc0C
        have hql := loadF_len g S C
        have hl1 := lan_le g S c0
        have w2 : IntKind.i64.wrap (((lan g S c0).length : Int) + 1) = ((lan g S c0).length : Int) + 1 := Sz.w_64 (by omega) (by omega)
        generalize loadF g S C = Q at hq hql ⊢
        have hq2 : (iL Q)[c0]? = some (.v (.int .i64 ((lan g S c0).length : Int))) := by unfold iL; rw [List.getElem?_map, hq]; rfl
        have hov := @iL_over Q c0 (((lan g S c0).length : Int) + 1) (by omega)
        have k0 : (0 : Int) ≤ (c0 : Int) := by omega
        have k1 : (c0 : Int) < (C : Int) := by omega
        have k2 : c0 + 1 ≤ C := hc0C
        have k3 : ¬ g.ch = 0 := by omega
        have k4 : g.ch ≠ 0 := k3
        simp (maxSteps := 2000000) -implicitDefEqProofs only [hb2, hc0, k0, k1, k2, k3, k4, hq2, hov, hql, w1, w2, iL_len, s_alt, s_alt20, s_alt2t, s_alt2f, ↓s_loopi, ↓v_pq, ↓PRE, POST, CORE, Nat.reduceDiv, Nat.reduceMod, Int.reduceLT, Int.reduceLE, Int.reduceToNat, Int.reduceAdd, ↓reduceIte, Nat.reduceEqDiff, Nat.reduceAdd, Nat.reduceMul, Nat.reduceSub, Nat.reduceLeDiff, Nat.reduceLT, reduceCtorEq, if_true, eq_self, forall_const, implies_true]
        exact ⟨k4, (by refine ⟨[0, 1], by simp [NdL, NdA, oO_cells, oO_own, iL_nil], ?_, ?_, keep0 hJ⟩ <;> simp only [FitM, FitE, ObLe, LeL, Le, List.cons_append, List.nil_append] <;> (try (simp (maxSteps := 2000000) -implicitDefEqProofs only [iL_fold, iL_over, iL_all, iL_get, iL_len, iL_take, iL_drop, iL_one, iL_plain, iL_le, List.length_set, s_alt, s_alt20, s_alt2t, s_alt2f, ↓s_loopi, ↓v_pq, ↓PRE, POST, CORE, Nat.reduceDiv, Nat.reduceMod, Int.reduceLT, Int.reduceLE, Int.reduceToNat, Int.reduceAdd, ↓reduceIte, Nat.reduceEqDiff, Nat.reduceAdd, Nat.reduceMul, Nat.reduceSub, Nat.reduceLeDiff, Nat.reduceLT, reduceCtorEq, if_true, eq_self, forall_const, implies_true])) <;> (try simp only [Sz.Le, Sz.LeL, List.getElem?_cons_zero, List.getElem?_cons_succ]) <;> (try simp))⟩
      · have hok : okB g b = false := by unfold okB; simp [hb2]
        rw [loadF_no hok]
        simp (maxSteps := 2000000) -implicitDefEqProofs only [hb2, w1, s_alt, s_alt20, s_alt2t, s_alt2f, ↓s_loopi, ↓v_pq, ↓PRE, POST, CORE, Nat.reduceDiv, Nat.reduceMod, Int.reduceLT, Int.reduceLE, Int.reduceToNat, Int.reduceAdd, ↓reduceIte, Nat.reduceEqDiff, Nat.reduceAdd, Nat.reduceMul, Nat.reduceSub, Nat.reduceLeDiff, Nat.reduceLT, reduceCtorEq, if_true, eq_self, forall_const, implies_true]
        exact (by refine ⟨[0, 1], by simp [NdL, NdA, oO_cells, oO_own, iL_nil], ?_, ?_, keep0 hJ⟩ <;> simp only [FitM, FitE, ObLe, LeL, Le, List.cons_append, List.nil_append] <;> (try (simp (maxSteps := 2000000) -implicitDefEqProofs only [iL_fold, iL_over, iL_all, iL_get, iL_len, iL_take, iL_drop, iL_one, iL_plain, iL_le, List.length_set, s_alt, s_alt20, s_alt2t, s_alt2f, ↓s_loopi, ↓v_pq, ↓PRE, POST, CORE, Nat.reduceDiv, Nat.reduceMod, Int.reduceLT, Int.reduceLE, Int.reduceToNat, Int.reduceAdd, ↓reduceIte, Nat.reduceEqDiff, Nat.reduceAdd, Nat.reduceMul, Nat.reduceSub, Nat.reduceLeDiff, Nat.reduceLT, reduceCtorEq, if_true, eq_self, forall_const, implies_true])) <;> (try simp only [Sz.Le, Sz.LeL, List.getElem?_cons_zero, List.getElem?_cons_succ]) <;> (try simp))
    · have hok : okB g b = false := by unfold okB; simp [hb1]
      rw [loadF_no hok]
      simp (maxSteps := 2000000) -implicitDefEqProofs only [j0, j1, f, hp, hb1, w1, s_alt, s_alt20, s_alt2t, s_alt2f, ↓s_loopi, ↓v_pq, ↓PRE, POST, CORE, Nat.reduceDiv, Nat.reduceMod, Int.reduceLT, Int.reduceLE, Int.reduceToNat, Int.reduceAdd, ↓reduceIte, Nat.reduceEqDiff, Nat.reduceAdd, Nat.reduceMul, Nat.reduceSub, Nat.reduceLeDiff, Nat.reduceLT, reduceCtorEq, if_true, eq_self, forall_const, implies_true]
      exact (by refine ⟨[0, 1], by simp [NdL, NdA, oO_cells, oO_own, iL_nil], ?_, ?_, keep0 hJ⟩ <;> simp only [FitM, FitE, ObLe, LeL, Le, List.cons_append, List.nil_append] <;> (try (simp (maxSteps := 2000000) -implicitDefEqProofs only [iL_fold, iL_over, iL_all, iL_get, iL_len, iL_take, iL_drop, iL_one, iL_plain, iL_le, List.length_set, s_alt, s_alt20, s_alt2t, s_alt2f, ↓s_loopi, ↓v_pq, ↓PRE, POST, CORE, Nat.reduceDiv, Nat.reduceMod, Int.reduceLT, Int.reduceLE, Int.reduceToNat, Int.reduceAdd, ↓reduceIte, Nat.reduceEqDiff, Nat.reduceAdd, Nat.reduceMul, Nat.reduceSub, Nat.reduceLeDiff, Nat.reduceLT, reduceCtorEq, if_true, eq_self, forall_const, implies_true])) <;> (try simp only [Sz.Le, Sz.LeL, List.getElem?_cons_zero, List.getElem?_cons_succ]) <;> (try simp))
  · intro _
    have j1 : ¬ (bs.length : Int) < (bs.length : Int) := by omega
    rw [List.take_length]
    simp (maxSteps := 2000000) -implicitDefEqProofs only [j1, s_alt, s_alt20, s_alt2t, s_alt2f, ↓s_loopi, ↓v_pq, ↓PRE, POST, CORE, Nat.reduceDiv, Nat.reduceMod, Int.reduceLT, Int.reduceLE, Int.reduceToNat, Int.reduceAdd, ↓reduceIte, Nat.reduceEqDiff, Nat.reduceAdd, Nat.reduceMul, Nat.reduceSub, Nat.reduceLeDiff, Nat.reduceLT, reduceCtorEq, if_true, eq_self, forall_const, implies_true]
    refine ⟨[1], .row 0 0 C 1, [⟨true, iL (loadF g bs C)⟩], by simp, ?_, by simp, by simp only [Le]; rfl, ?_⟩
    · simp [FitM, ObLe, iL_le]
    · simpa [SV.up, SObj.up, iL_up] using hk
def evenF (l : List Int) : Bool := decide (Lib.maxOf l - Lib.minOf l ≤ 1)
def c24 [Inp] : Trans := fun args m k => ∃ (g : Ge) (s : SV) (bs : List Int), args = [.agg g.sv, s] ∧ rdI m s = some bs ∧ bs.length ≤ 100000 ∧
  (chkG g = false → k (.v (.bool true)) m) ∧ (chkG g = true → k (.v (.bool (evenF (loadF g bs g.ch.toNat)))) m)
def G24 [Inp] : List CEntry := [⟨23, true, c23⟩, ⟨65, true, numT Lib.maxOf⟩, ⟨66, true, numT Lib.minOf⟩]
theorem g24 [Inp] : GOk Try.prog G24 := GOk.cons c23_ok (GOk.cons c65_ok (GOk.cons c66_ok (g0 _)))
theorem foldl_in {f : Int → Int → Int} (hf : ∀ a b : Int, f a b = a ∨ f a b = b) {P : Int → Prop} : ∀ {l : List Int} {a : Int}, P a → (∀ x ∈ l, P x) → P (l.foldl f a)
  | [], a, h, _ => h
  | x :: l, a, h, hl => foldl_in hf (l := l) (by rcases hf a x with e | e <;> rw [e] <;> first | exact h | exact hl x (by simp)) fun y hy => hl y (by simp [hy])
theorem head_in {P : Int → Prop} {l : List Int} (h0 : P 0) (h : ∀ x ∈ l, P x) : P (l.headD 0) := by
  cases l with
  | nil => exact h0
  | cons x l => exact h x (by simp)
theorem maxOf_in {l : List Int} {B : Int} (h : ∀ x ∈ l, 0 ≤ x ∧ x ≤ B) (hB : 0 ≤ B) : 0 ≤ Lib.maxOf l ∧ Lib.maxOf l ≤ B :=
  foldl_in (P := fun x => 0 ≤ x ∧ x ≤ B) (fun a b => by omega) (head_in (P := fun x => 0 ≤ x ∧ x ≤ B) ⟨Int.le_refl _, hB⟩ h) h
theorem minOf_in {l : List Int} {B : Int} (h : ∀ x ∈ l, 0 ≤ x ∧ x ≤ B) (hB : 0 ≤ B) : 0 ≤ Lib.minOf l ∧ Lib.minOf l ≤ B :=
  foldl_in (P := fun x => 0 ≤ x ∧ x ≤ B) (fun a b => by omega) (head_in (P := fun x => 0 ≤ x ∧ x ≤ B) ⟨Int.le_refl _, hB⟩ h) h
theorem c24_ok [I : Inp] : Contract Try.prog 24 true c24 := by
  refine .read fn24 (G := fun J => @G24 J) (fun J => @g24 J) _ fun args m k h => ?_
  obtain ⟨g, s, bs, rfl, hb, hmax, hk0, hk1⟩ := h
  refine ⟨by simp [Ge.sv], fun J hJ us hus => ?_⟩
  obtain ⟨u, t1, rfl, hu1, u2, t2, rfl, hu2, rfl⟩ := hus
  obtain rfl := hu1.2.1 g.vs rfl
  obtain ⟨p, cc, rfl, hin⟩ := rdI_knows hb hu2
  rw [List.map_cons, List.map_cons, List.map_nil, show SV.of (.agg g.vs.toArray) = _ from ge_of g]
  simp (maxSteps := 2000000) -implicitDefEqProofs only [↓x24, ↓r24, ↓G24, ↓c23, s_alt, s_alt20, s_alt2t, s_alt2f, ↓s_loopi, ↓v_pq, ↓PRE, POST, CORE, Nat.reduceDiv, Nat.reduceMod, Int.reduceLT, Int.reduceLE, Int.reduceToNat, Int.reduceAdd, ↓reduceIte, Nat.reduceEqDiff, Nat.reduceAdd, Nat.reduceMul, Nat.reduceSub, Nat.reduceLeDiff, Nat.reduceLT, reduceCtorEq, if_true, eq_self, forall_const, implies_true]
  refine ⟨g, .v (.slice p bs.length cc), bs, rfl, rdI_v hin, hmax, fun hg => ?_, fun hg => ?_⟩
  · have h00 : ((0 : Int) == 0) = true := rfl
    try simp (maxSteps := 2000000) -implicitDefEqProofs only [h00, s_alt, s_alt20, s_alt2t, s_alt2f, ↓s_loopi, ↓v_pq, ↓PRE, POST, CORE, Nat.reduceDiv, Nat.reduceMod, Int.reduceLT, Int.reduceLE, Int.reduceToNat, Int.reduceAdd, ↓reduceIte, Nat.reduceEqDiff, Nat.reduceAdd, Nat.reduceMul, Nat.reduceSub, Nat.reduceLeDiff, Nat.reduceLT, reduceCtorEq, if_true, eq_self, forall_const, implies_true]
    exact hk0 hg
  · have hk := hk1 hg
    obtain ⟨⟨⟨m1, m1'⟩, ⟨m2, m2'⟩, ⟨m3, m3'⟩, m4, m4'⟩, m5, m6⟩ := chk_in.1 hg
    obtain ⟨C, hC⟩ : ∃ C : Nat, g.ch = (C : Int) := ⟨g.ch.toNat, by omega⟩
    have hCt : g.ch.toNat = C := by omega
    rw [hCt] at hk ⊢
    have hne : ((C : Int) == 0) = false := by simp; omega
    have hl := loadF_len g bs C
    have hb1 : ∀ x ∈ loadF g bs C, 0 ≤ x ∧ x ≤ 100000 := fun x hx => by
      obtain ⟨c, _, rfl⟩ := List.mem_map.1 hx
      have := lan_le g bs c
      omega
    unfold evenF at hk
    generalize loadF g bs C = Q at hk hl hb1 ⊢
    have hM := maxOf_in hb1 (by omega)
    have hm := minOf_in hb1 (by omega)
    have w1 : IntKind.i64.wrap (Lib.maxOf Q - Lib.minOf Q) = Lib.maxOf Q - Lib.minOf Q := Sz.w_64 (by omega) (by omega)
    subst hl
    simp (maxSteps := 2000000) -implicitDefEqProofs only [hne, ↓G24, s_alt, s_alt20, s_alt2t, s_alt2f, ↓s_loopi, ↓v_pq, ↓PRE, POST, CORE, Nat.reduceDiv, Nat.reduceMod, Int.reduceLT, Int.reduceLE, Int.reduceToNat, Int.reduceAdd, ↓reduceIte, Nat.reduceEqDiff, Nat.reduceAdd, Nat.reduceMul, Nat.reduceSub, Nat.reduceLeDiff, Nat.reduceLT, reduceCtorEq, if_true, eq_self, forall_const, implies_true]
    refine ⟨1, Q, rfl, rfl, by omega, by omega, ?_⟩
    simp (maxSteps := 2000000) -implicitDefEqProofs only [↓G24, s_alt, s_alt20, s_alt2t, s_alt2f, ↓s_loopi, ↓v_pq, ↓PRE, POST, CORE, Nat.reduceDiv, Nat.reduceMod, Int.reduceLT, Int.reduceLE, Int.reduceToNat, Int.reduceAdd, ↓reduceIte, Nat.reduceEqDiff, Nat.reduceAdd, Nat.reduceMul, Nat.reduceSub, Nat.reduceLeDiff, Nat.reduceLT, reduceCtorEq, if_true, eq_self, forall_const, implies_true]
    refine ⟨1, Q, rfl, rfl, by omega, by omega, ?_⟩
    simp (maxSteps := 2000000) -implicitDefEqProofs only [w1, s_alt, s_alt20, s_alt2t, s_alt2f, ↓s_loopi, ↓v_pq, ↓PRE, POST, CORE, Nat.reduceDiv, Nat.reduceMod, Int.reduceLT, Int.reduceLE, Int.reduceToNat, Int.reduceAdd, ↓reduceIte, Nat.reduceEqDiff, Nat.reduceAdd, Nat.reduceMul, Nat.reduceSub, Nat.reduceLeDiff, Nat.reduceLT, reduceCtorEq, if_true, eq_self, forall_const, implies_true]
    exact hk
end St
end Go.Proofs.Ytibefgdjijmncaa
end
section
namespace Go.Proofs.Ytibefgdjijmncaa
open Go.RowKit Sz
set_option maxHeartbeats 8000000
set_option maxRecDepth 20000
namespace St
theorem lanC_leJ {hs : List Nat} {p q C : Nat} {L : List (List Int)} (hp : hs.length = p) (hL : L.length = C) : LeL (hs ++ tsI q C) (lanC p L) (lanC q L) :=
  lanC_le fun c l hl _ => by
    rw [List.getElem?_append_right (by omega), hp, show c + p - p = c by omega]
    exact tsI_get (by have := some_lt hl; omega)
theorem fitRq [J : Inp] (hJ : J.keep = 0) {e : Env} {m : Mem} {env : List (Nat × SV)} {L : List (List Int)} {C p q : Nat} {hs : List Nat} {heads : Mem} (hL : L.length = C) (hp : hs.length = p) (hh : heads.length = p) (hn : hs.Nodup) (hf : ∀ h ∈ hs, h < q ∨ q + C ≤ h)
    (hm : ∀ (c : Nat) (l : List Int), L[c]? = some l → m[c + q]? = some (oO (iL l))) (hM : FitM (hs ++ tsI q C) m hs heads) (hE : FitE (hs ++ tsI q C) e env) : Fit e m env (heads ++ lanO L) :=
  fitH hJ (φ := fun i => i + q) hn (by rw [hp, hh]) (by rw [tsI_len, hL]) (fun c l hl => by
    have hc := some_lt hl
    exact ⟨c + q, _, tsI_get (by omega), hm c l hl, fun hne => ⟨oO_al hne, rfl, fun hq => by have := hf _ hq; omega⟩⟩) (fun i j hij _ => by show i + q ≠ j + q; omega) hM hE
def tkA (tk : List Int) (c : Nat) : Int := tk.getD c 0
def lnA (L : List (List Int)) (c : Nat) : List Int := L.getD c []
def stepB (L : List (List Int)) (tk : List Int) (b : Int) (c : Nat) : Int := if tkA tk c < ((lnA L c).length : Int) ∧ (b < 0 ∨ tkA tk c < tkA tk b.toNat) then (c : Int) else b
def bestN (L : List (List Int)) (tk : List Int) : Nat → Int
  | 0 => -1
  | c + 1 => stepB L tk (bestN L tk c) c
theorem bestN_in (L : List (List Int)) (tk : List Int) : ∀ c, bestN L tk c = -1 ∨ (0 ≤ bestN L tk c ∧ bestN L tk c < (c : Int) ∧ tkA tk (bestN L tk c).toNat < ((lnA L (bestN L tk c).toNat).length : Int))
  | 0 => .inl rfl
  | c + 1 => by
    unfold bestN stepB
    split
    · rename_i h
      right
      rw [Int.toNat_natCast]
      exact ⟨by omega, by omega, h.1⟩
    · rcases bestN_in L tk c with h | h
      · exact .inl h
      · exact .inr ⟨h.1, by omega, h.2.2⟩
def pickS (L : List (List Int)) : Nat → Option (List Int × List Int)
  | 0 => some ([], List.replicate L.length 0)
  | n + 1 => (pickS L n).bind fun s => if bestN L s.2 L.length < 0 then none else
      some (s.1 ++ [(lnA L (bestN L s.2 L.length).toNat).getD (tkA s.2 (bestN L s.2 L.length).toNat).toNat 0], s.2.set (bestN L s.2 L.length).toNat (tkA s.2 (bestN L s.2 L.length).toNat + 1))
theorem tkA_set {tk : List Int} {b c : Nat} {v : Int} (hb : b < tk.length) : tkA (tk.set b v) c = if c = b then v else tkA tk c := by
  unfold tkA
  rw [List.getD_eq_getElem?_getD, List.getD_eq_getElem?_getD, List.getElem?_set]
  by_cases h : b = c
  · subst h
    rw [if_pos rfl, if_pos hb, if_pos rfl]
    rfl
  · rw [if_neg h, if_neg (fun q => h q.symm)]
theorem pickS_in {L : List (List Int)} : ∀ {n : Nat} {s : List Int × List Int}, pickS L n = some s → s.1.length = n ∧ s.2.length = L.length ∧ ∀ c, 0 ≤ tkA s.2 c ∧ tkA s.2 c ≤ n ∧ tkA s.2 c ≤ ((lnA L c).length : Int)
  | 0, s, h => by
    injection h with h
    subst h
    refine ⟨rfl, by simp, fun c => ?_⟩
    have : tkA (List.replicate L.length 0) c = 0 := by
      unfold tkA
      rw [List.getD_eq_getElem?_getD, List.getElem?_replicate]
      split <;> rfl
    simp only [this]
    omega
  | n + 1, s, h => by
    obtain ⟨s0, h0, h1⟩ := Option.bind_eq_some_iff.1 h
    obtain ⟨a1, a2, a3⟩ := pickS_in h0
    split at h1
    · cases h1
    · rename_i hb
      injection h1 with h1
      subst h1
      rcases bestN_in L s0.2 L.length with e | ⟨e1, e2, e3⟩
      · omega
      · refine ⟨by simp [a1], by simp [a2], fun c => ?_⟩
        rw [tkA_set (by rw [a2]; omega)]
        have := a3 c
        have := a3 (bestN L s0.2 L.length).toNat
        split
        · rename_i hc
          subst hc
          omega
        · omega
theorem pickS_none {L : List (List Int)} {n : Nat} (h : pickS L n = none) : ∀ k, pickS L (n + k) = none
  | 0 => h
  | k + 1 => by
    show (pickS L (n + k)).bind _ = none
    rw [pickS_none h k]
    rfl
theorem iL_at {Q : List Int} {c : Nat} (h : c < Q.length) : (iL Q)[c]? = some (.v (.int .i64 (tkA Q c))) := by
  unfold iL tkA
  rw [List.getElem?_map, List.getD_eq_getElem?_getD, List.getElem?_eq_getElem h]
  rfl
-- almshouse/stripe.Pick (3 parameters)
def x20 : XC := (.seq (.tree (.seq ⟨some 3, none, (.box (.tmp 0))⟩
 (.seq ⟨some 6, none, (.ofA (.mv (.cst (.v (.slice none 0 0)))))⟩
 (.seq ⟨some 7, none, (.ofA (.mv (.cst (.v (.bool false)))))⟩
 .done))))
 (.seq (.tree (.seq ⟨some 14, none, (.ofA (.load (some 4) (.tmp 3)))⟩
 (.seq ⟨some 15, none, (.ofA (.mv (.tmp 1)))⟩
 (.seq ⟨some 16, none, (.call (.cst (.fn 63 [])) [(.tmp 14), (.tmp 15)])⟩
 (.seq ⟨some 8, none, (.ofA (.mv (.tmp 16)))⟩
 .done)))))
 (.seq (.seq (.tree (.seq ⟨some 17, none, (.ofA (.mv (.tmp 8)))⟩
 (.seq ⟨some 18, none, (.ofA (.len (.tmp 17)))⟩
 (.seq ⟨some 19, none, (.ofA (.bin .eql (.tmp 18) (.cst (.v (.int .i64 0)))))⟩
 (.seq ⟨some 20, none, (.ofA (.mv (.tmp 19)))⟩
 (.seq ⟨some 21, some (20, false), (.ofA (.mv (.tmp 2)))⟩
 (.seq ⟨some 22, some (20, false), (.ofA (.bin .lss (.tmp 21) (.cst (.v (.int .i64 0)))))⟩
 (.seq ⟨some 23, none, (.ofA (.pick (.tmp 20) (.cst (.v (.bool true))) (.tmp 22)))⟩
 .done))))))))
 (.cond (.tmp 23)
 (.seq (.tree (.seq ⟨some 6, none, (.ofA (.mv (.cst (.v (.slice none 0 0)))))⟩
 (.seq ⟨some 7, none, (.ofA (.mv (.cst (.v (.bool false)))))⟩
 .done)))
 .ret)
 .skip))
 (.seq (.tree (.seq ⟨some 24, none, (.ofA (.mv (.tmp 8)))⟩
 (.seq ⟨some 25, none, (.ofA (.len (.tmp 24)))⟩
 (.seq ⟨some 26, none, (.mkSl 1 8 [(.v (.int .i64 0))] (.tmp 25) (.tmp 25))⟩
 (.seq ⟨some 9, none, (.ofA (.mv (.tmp 26)))⟩
 .done)))))
 (.seq (.tree (.seq ⟨some 10, none, (.ofA (.mv (.cst (.v (.slice none 0 0)))))⟩
 .done))
 (.seq (.block 0 (.loop (.seq (.seq (.tree (.seq ⟨some 27, none, (.ofA (.mv (.tmp 10)))⟩
 (.seq ⟨some 28, none, (.ofA (.len (.tmp 27)))⟩
 (.seq ⟨some 29, none, (.ofA (.mv (.tmp 2)))⟩
 (.seq ⟨some 30, none, (.ofA (.bin .lss (.tmp 28) (.tmp 29)))⟩
 .done)))))
 (.cond (.tmp 30)
 .skip
 (.exit 0)))
 (.block 1 (.seq (.tree (.seq ⟨some 11, none, (.ofA (.mv (.cst (.v (.int .i64 (-1))))))⟩
 .done))
 (.seq (.seq (.tree (.seq ⟨some 31, none, (.ofA (.mv (.tmp 8)))⟩
 (.seq ⟨some 32, none, (.ofA (.len (.tmp 31)))⟩
 (.seq ⟨some 33, none, (.ofA (.mv (.cst (.v (.int .i64 0)))))⟩
 .done))))
 (.block 2 (.loop (.seq (.tree (.seq ⟨some 34, none, (.ofA (.bin .lss (.tmp 33) (.tmp 32)))⟩
 .done))
 (.seq (.cond (.tmp 34)
 .skip
 (.exit 2))
 (.seq (.block 3 (.seq (.tree (.seq ⟨some 35, none, (.ofA (.mv (.tmp 33)))⟩
 (.seq ⟨some 36, none, (.ofA (.isl 1 (.tmp 31) (.tmp 33)))⟩
 (.seq ⟨some 37, none, (.ofA (.load none (.tmp 36)))⟩
 (.seq ⟨some 12, none, (.ofA (.mv (.tmp 35)))⟩
 (.seq ⟨some 13, none, (.ofA (.mv (.tmp 37)))⟩
 .done))))))
 (.seq (.tree (.take ⟨some 38, none, (.ofA (.mv (.tmp 9)))⟩
 (.take ⟨some 39, none, (.ofA (.mv (.tmp 12)))⟩
 (.take ⟨some 40, none, (.ofA (.isl 1 (.tmp 38) (.tmp 39)))⟩
 (.take ⟨some 41, none, (.ofA (.load none (.tmp 40)))⟩
 (.take ⟨some 42, none, (.ofA (.mv (.tmp 13)))⟩
 (.take ⟨some 43, none, (.ofA (.len (.tmp 42)))⟩
 (.take ⟨some 44, none, (.ofA (.bin .lss (.tmp 41) (.tmp 43)))⟩
 (.take ⟨some 45, none, (.ofA (.mv (.tmp 44)))⟩
 (.take ⟨some 46, some (45, true), (.ofA (.mv (.tmp 11)))⟩
 (.take ⟨some 47, some (45, true), (.ofA (.bin .lss (.tmp 46) (.cst (.v (.int .i64 0)))))⟩
 (.take ⟨some 48, some (45, true), (.ofA (.mv (.tmp 47)))⟩
 (.take ⟨some 49, some (48, false), (.ofA (.mv (.tmp 9)))⟩
 (.take ⟨some 50, some (48, false), (.ofA (.mv (.tmp 12)))⟩
 (.take ⟨some 51, some (48, false), (.ofA (.isl 1 (.tmp 49) (.tmp 50)))⟩
 (.take ⟨some 52, some (48, false), (.ofA (.load none (.tmp 51)))⟩
 (.take ⟨some 53, some (48, false), (.ofA (.mv (.tmp 9)))⟩
 (.take ⟨some 54, some (48, false), (.ofA (.mv (.tmp 11)))⟩
 (.take ⟨some 55, some (48, false), (.ofA (.isl 1 (.tmp 53) (.tmp 54)))⟩
 (.take ⟨some 56, some (48, false), (.ofA (.load none (.tmp 55)))⟩
 (.take ⟨some 57, some (48, false), (.ofA (.bin .lss (.tmp 52) (.tmp 56)))⟩
 (.take ⟨some 58, some (45, true), (.ofA (.pick (.tmp 48) (.cst (.v (.bool true))) (.tmp 57)))⟩
 (.take ⟨some 59, none, (.ofA (.pick (.tmp 45) (.tmp 58) (.cst (.v (.bool false)))))⟩
 .done)))))))))))))))))))))))
 (.cond (.tmp 59)
 (.tree (.seq ⟨some 60, none, (.ofA (.mv (.tmp 12)))⟩
 (.seq ⟨some 11, none, (.ofA (.mv (.tmp 60)))⟩
 .done)))
 .skip))))
 (.tree (.seq ⟨some 61, none, (.ofA (.bin .add (.tmp 33) (.cst (.v (.int .i64 1)))))⟩
 (.seq ⟨some 33, none, (.ofA (.mv (.tmp 61)))⟩
 .done)))))))))
 (.seq (.seq (.tree (.seq ⟨some 62, none, (.ofA (.mv (.tmp 11)))⟩
 (.seq ⟨some 63, none, (.ofA (.bin .lss (.tmp 62) (.cst (.v (.int .i64 0)))))⟩
 .done)))
 (.cond (.tmp 63)
 (.seq (.tree (.seq ⟨some 6, none, (.ofA (.mv (.cst (.v (.slice none 0 0)))))⟩
 (.seq ⟨some 7, none, (.ofA (.mv (.cst (.v (.bool false)))))⟩
 .done)))
 .ret)
 .skip))
 (.seq (.tree (.take ⟨some 64, none, (.ofA (.mv (.tmp 10)))⟩
 (.take ⟨some 65, none, (.ofA (.mv (.tmp 8)))⟩
 (.take ⟨some 66, none, (.ofA (.mv (.tmp 11)))⟩
 (.take ⟨some 67, none, (.ofA (.isl 1 (.tmp 65) (.tmp 66)))⟩
 (.take ⟨some 68, none, (.ofA (.load none (.tmp 67)))⟩
 (.take ⟨some 69, none, (.ofA (.mv (.tmp 9)))⟩
 (.take ⟨some 70, none, (.ofA (.mv (.tmp 11)))⟩
 (.take ⟨some 71, none, (.ofA (.isl 1 (.tmp 69) (.tmp 70)))⟩
 (.take ⟨some 72, none, (.ofA (.load none (.tmp 71)))⟩
 (.take ⟨some 73, none, (.ofA (.isl 1 (.tmp 68) (.tmp 72)))⟩
 (.take ⟨some 74, none, (.ofA (.load none (.tmp 73)))⟩
 (.alt [true] [(⟨some 75, none, (.buildSl 1 1 [(.v (.int .i64 0))] [(0, 1, (.tmp 74))])⟩,
 (.alt [false] [(⟨some 76, none, (.app 1 8 (.tmp 64) (.tmp 75))⟩,
 (.take ⟨some 10, none, (.ofA (.mv (.tmp 76)))⟩
 .done))]))])))))))))))))
 (.tree (.seq ⟨some 77, none, (.ofA (.mv (.tmp 9)))⟩
 (.seq ⟨some 78, none, (.ofA (.mv (.tmp 11)))⟩
 (.seq ⟨some 79, none, (.ofA (.isl 1 (.tmp 77) (.tmp 78)))⟩
 (.seq ⟨some 80, none, (.ofA (.load none (.tmp 79)))⟩
 (.seq ⟨some 81, none, (.ofA (.bin .add (.tmp 80) (.cst (.v (.int .i64 1)))))⟩
 (.seq ⟨some 82, none, (.ofA (.isl 1 (.tmp 77) (.tmp 78)))⟩
 (.seq ⟨none, none, (.store 1 (.tmp 82) (.tmp 81))⟩
 .done))))))))))))))))
 (.seq (.tree (.seq ⟨some 83, none, (.ofA (.mv (.tmp 10)))⟩
 (.seq ⟨some 84, none, (.call (.cst (.fn 64 [])) [(.tmp 83)])⟩
 .done)))
 (.seq (.tree (.seq ⟨some 85, none, (.ofA (.mv (.tmp 10)))⟩
 (.seq ⟨some 6, none, (.ofA (.mv (.tmp 85)))⟩
 (.seq ⟨some 7, none, (.ofA (.mv (.cst (.v (.bool true)))))⟩
 .done))))
 .ret))))))))
def r20 : List XR := [.tmp 6, .tmp 7]
theorem fn20 : FnX Try.prog 20 [64, 106] 86 x20 r20 := ⟨_, Try.func20, by kernel_rfl, by kernel_rfl, by kernel_rfl, by kernel_rfl⟩
def c20 [Inp] : Trans := fun args m k => ∃ (g : Ge) (s : SV) (bs : List Int) (many : Int), args = [.agg g.sv, s, .v (.int .i64 many)] ∧ rdI m s = some bs ∧ bs.length ≤ 100000 ∧ (-9223372036854775808 ≤ many ∧ many ≤ 100000) ∧
  (chkG g = false ∨ many < 0 → k (.tup [.v (.slice none 0 0), .v (.bool false)]) m) ∧
  (chkG g = true → 0 ≤ many → (pickS (lanF g (setF bs) g.ch.toNat) many.toNat = none → k (.tup [.v (.slice none 0 0), .v (.bool false)]) m) ∧
    (∀ s, pickS (lanF g (setF bs) g.ch.toNat) many.toNat = some s → k (.tup [intS m.length (srt s.1), .v (.bool true)]) (m ++ intM (srt s.1))))
def G20 [Inp] : List CEntry := [⟨63, true, c63⟩, ⟨64, false, sortT srt⟩]
theorem g20 [Inp] : GOk Try.prog G20 := GOk.cons c63_ok (GOk.cons c64_ok (g0 _))
theorem c20_ok [I : Inp] : Contract Try.prog 20 true c20 := by
  refine .readF fn20 (G := fun J => @G20 J) (fun J => @g20 J) _ fun args m k h => ?_
  obtain ⟨g, s, bs, many, rfl, hb, hmax, hmy, hk0, hk1⟩ := h
  refine ⟨by simp [Ge.sv], fun J hJ us hus => ?_⟩
  obtain ⟨u, t1, rfl, hu1, u2, t2, rfl, hu2, u3, t3, rfl, hu3, rfl⟩ := hus
  obtain rfl := hu1.2.1 g.vs rfl
  obtain rfl := hu3.1 _ rfl
  obtain ⟨p, cc, rfl, hin⟩ := rdI_knows hb hu2
  rw [List.map_cons, List.map_cons, List.map_cons, List.map_nil, show SV.of (.agg g.vs.toArray) = _ from ge_of g]
  simp (maxSteps := 2000000) -implicitDefEqProofs only [↓x20, ↓r20, ↓G20, ↓c63, s_alt, s_alt20, s_alt2t, s_alt2f, ↓s_loopi, ↓v_pq, ↓PRE, POST, CORE, Nat.reduceDiv, Nat.reduceMod, Int.reduceLT, Int.reduceLE, Int.reduceToNat, Int.reduceAdd, ↓reduceIte, Nat.reduceEqDiff, Nat.reduceAdd, Nat.reduceMul, Nat.reduceSub, Nat.reduceLeDiff, Nat.reduceLT, reduceCtorEq, if_true, eq_self, forall_const, implies_true]
  refine ⟨g, .v (.slice p bs.length cc), bs, rfl, rdI_v hin, hmax, fun hg => ?_, fun hg => ?_⟩
  · have h00 : ((0 : Int) == 0) = true := rfl
    try simp (maxSteps := 2000000) -implicitDefEqProofs only [h00, s_alt, s_alt20, s_alt2t, s_alt2f, ↓s_loopi, ↓v_pq, ↓PRE, POST, CORE, Nat.reduceDiv, Nat.reduceMod, Int.reduceLT, Int.reduceLE, Int.reduceToNat, Int.reduceAdd, ↓reduceIte, Nat.reduceEqDiff, Nat.reduceAdd, Nat.reduceMul, Nat.reduceSub, Nat.reduceLeDiff, Nat.reduceLT, reduceCtorEq, if_true, eq_self, forall_const, implies_true]
    refine ⟨[], .tup [.v (.slice none 0 0), .v (.bool false)], [], by simp, trivial, by simp, by simp [Le, LeL], ?_⟩
    simpa [SV.up, upL] using hk0 (.inl hg)
  · have i1 : 1 ≤ g.ch ∧ g.ch ≤ 64 := by have := (chk_in.1 hg).1.1; omega
    obtain ⟨C, hC⟩ : ∃ C, C = g.ch.toNat := ⟨_, rfl⟩
    rw [← hC] at hk1 ⊢
    have hC64 : 1 ≤ C ∧ C ≤ 64 := by omega
    have hne : ((C : Int) == 0) = false := by simp; omega
    by_cases hm0 : many < 0
    · simp (maxSteps := 2000000) -implicitDefEqProofs only [hne, hm0, s_alt, s_alt20, s_alt2t, s_alt2f, ↓s_loopi, ↓v_pq, ↓PRE, POST, CORE, Nat.reduceDiv, Nat.reduceMod, Int.reduceLT, Int.reduceLE, Int.reduceToNat, Int.reduceAdd, ↓reduceIte, Nat.reduceEqDiff, Nat.reduceAdd, Nat.reduceMul, Nat.reduceSub, Nat.reduceLeDiff, Nat.reduceLT, reduceCtorEq, if_true, eq_self, forall_const, implies_true]
      refine ⟨[], .tup [.v (.slice none 0 0), .v (.bool false)], [], by simp, trivial, by simp, by simp [Le, LeL], ?_⟩
      simpa [SV.up, upL] using hk0 (.inr hm0)
    obtain ⟨hkn, hks⟩ := hk1 hg (by omega)
    obtain ⟨N, hN⟩ : ∃ N : Nat, many = (N : Int) := ⟨many.toNat, by omega⟩
    rw [show many.toNat = N by omega] at hkn hks
    subst hN
    simp (maxSteps := 2000000) -implicitDefEqProofs only [hne, hm0, s_alt, s_alt20, s_alt2t, s_alt2f, ↓s_loopi, ↓v_pq, ↓PRE, POST, CORE, Nat.reduceDiv, Nat.reduceMod, Int.reduceLT, Int.reduceLE, Int.reduceToNat, Int.reduceAdd, ↓reduceIte, Nat.reduceEqDiff, Nat.reduceAdd, Nat.reduceMul, Nat.reduceSub, Nat.reduceLeDiff, Nat.reduceLT, reduceCtorEq, if_true, eq_self, forall_const, implies_true]
    obtain ⟨L, hL⟩ : ∃ L, L = lanF g (setF bs) C := ⟨_, rfl⟩
    rw [← hL] at hkn hks ⊢
    have hLl : L.length = C := by rw [hL, lanF_len]
    have hLb : ∀ c, (lnA L c).length ≤ 100000 := fun c => by
      unfold lnA
      rw [List.getD_eq_getElem?_getD]
      cases h : L[c]? with
      | none => simp
      | some l =>
        have hl := List.mem_of_getElem? h
        rw [hL] at hl
        obtain ⟨c, _, rfl⟩ := List.mem_map.1 hl
        unfold lan
        refine Nat.le_trans (List.length_filter_le _ _) ?_
        have := compact_le (srt bs)
        rw [srt_len] at this
        exact Nat.le_trans this hmax
    have hTl : (lanO L).length = C := by rw [lanO_len, hLl]
    have hCl : (lanC 3 L).length = C := by rw [lanC_len, hLl]
    obtain ⟨lO, hlO⟩ : ∃ lO : SObj, lO = ⟨true, lanC 3 L⟩ := ⟨_, rfl⟩
    have olO : ∀ hs : List Nat, hs.length = 3 → ObLe (hs ++ tsI 3 C) lO lO := fun hs h => by rw [hlO]; exact .inr ⟨fun h => h, lanC_leJ h hLl, trivial⟩
    have oiL : ∀ {G : List Nat} {Q : List Int}, ObLe G ⟨true, iL Q⟩ ⟨true, iL Q⟩ := fun {G Q} => .inr ⟨fun h => h, by show LeL G (iL _) (iL _); rw [iL_le]; trivial, trivial⟩
    have hgcS : ∀ c l, L[c]? = some l → (lanC 3 L)[c]? = some (oV (c + 3) 1 l.length) := fun c l hl => lanC_get hl
    refine ⟨⟨by omega, Int.le_refl _, by omega, by omega⟩, ?_⟩
    rw [rep_iL, hTl]
    refine TXi_of (TX_countS (@g20 J) N (σ := List Int × List Int) (fun x s => [(2, .v (.int .i64 (N : Int))), (8, .row 0 0 C 1), (9, .row 1 0 C 1), (10, oV 2 1 s.1.length)]) (fun x s => [lO, ⟨true, iL s.2⟩, oO (iL s.1)] ++ lanO L) (fun x s => pickS L x = some s) ([], List.replicate C 0) (by unfold pickS; rw [hLl]) ?_ ?_ ?_)
    · refine fitRq hJ (C := C) (p := 3) (q := 2) (hs := [1, C + 2, 0]) (heads := [lO, ⟨true, iL (List.replicate C 0)⟩, oO (iL [])]) hLl rfl rfl (by simp) (fun h hh => by simp only [List.mem_cons, List.mem_nil_iff, or_false] at hh; omega) (fun c l hl => ?_) ?_ ?_
      · simp only [List.getElem?_cons_succ]
        rw [List.getElem?_append_left (by rw [hTl]; have := some_lt hl; omega)]
        exact lanO_get hl
      · have hat0 : ∀ (a : SObj) t, (lanO L ++ a :: t)[C]? = some a := fun a t => by rw [← hTl]; simp
        simp only [FitM, List.getElem?_cons_zero, List.getElem?_cons_succ, hat0]
        exact ⟨by rw [hlO]; exact .inr ⟨fun h => h, lanC_leJ rfl hLl, trivial⟩, oiL, .inl rfl, trivial⟩
      · simp only [FitE, Le, LeL, List.cons_append, List.nil_append] <;> (try (simp (maxSteps := 2000000) -implicitDefEqProofs only [o_sl, o_grows, o_kill, o_len, o_cap, o_isl, o_le, o_cells, o_one, oOk_c, oOk_o, oO_cells, oO_own, oV_s, oV_0, oO_nil, oO_iL, iL_nil, iL_snoc, List.length_append, s_alt, s_alt20, s_alt2t, s_alt2f, ↓s_loopi, ↓v_pq, ↓PRE, POST, CORE, Nat.reduceDiv, Nat.reduceMod, Int.reduceLT, Int.reduceLE, Int.reduceToNat, Int.reduceAdd, ↓reduceIte, Nat.reduceEqDiff, Nat.reduceAdd, Nat.reduceMul, Nat.reduceSub, Nat.reduceLeDiff, Nat.reduceLT, reduceCtorEq, if_true, eq_self, forall_const, implies_true])) <;> (try simp only [Sz.Le, Sz.LeL, List.getElem?_cons_zero, List.getElem?_cons_succ]) <;> (try simp)
    · intro x s hx hI
      obtain ⟨out, tk⟩ := s
      obtain ⟨a1, a2, a3⟩ := pickS_in hI
      simp only at a1 a2 a3 ⊢
      rw [hLl] at a2
      have j1 : ((out.length : Nat) : Int) < (N : Int) := by omega
      have hat0 : ∀ (a : SObj) t, (lanO L ++ a :: t)[C]? = some a := fun a t => by rw [← hTl]; simp
      have hat1 : ∀ (a d : SObj) t, (lanO L ++ a :: d :: t)[C + 1]? = some d := fun a d t => by rw [← hTl, List.getElem?_append_right (by omega)]; simp
      simp (maxSteps := 2000000) -implicitDefEqProofs only [j1, o_sl, o_grows, o_kill, o_len, o_cap, o_isl, o_le, o_cells, o_one, oOk_c, oOk_o, oO_cells, oO_own, oV_s, oV_0, oO_nil, oO_iL, iL_nil, iL_snoc, List.length_append, s_alt, s_alt20, s_alt2t, s_alt2f, ↓s_loopi, ↓v_pq, ↓PRE, POST, CORE, Nat.reduceDiv, Nat.reduceMod, Int.reduceLT, Int.reduceLE, Int.reduceToNat, Int.reduceAdd, ↓reduceIte, Nat.reduceEqDiff, Nat.reduceAdd, Nat.reduceMul, Nat.reduceSub, Nat.reduceLeDiff, Nat.reduceLT, reduceCtorEq, if_true, eq_self, forall_const, implies_true]
      refine TXi_of (TX_count (@g20 J) C (fun c => [(2, .v (.int .i64 (N : Int))), (8, .row 0 0 C 1), (9, .row 1 0 C 1), (10, oV 2 1 out.length), (11, .v (.int .i64 (bestN L tk c))), (31, .row 0 0 C 1), (32, .v (.int .i64 (C : Int))), (33, .v (.int .i64 (c : Int)))]) (fun c => [lO, ⟨true, iL tk⟩, oO (iL out)] ++ lanO L) (fun _ => True) trivial ?_ ?_ ?_)
      · rw [show bestN L tk 0 = -1 from rfl]
        refine fitRq hJ (C := C) (p := 3) (q := 3) (hs := [0, 1, 2]) (heads := [lO, ⟨true, iL tk⟩, oO (iL out)]) hLl rfl rfl (by decide) (fun h hh => .inl (by revert h; decide)) (fun c l hl => ?_) ?_ ?_
        · simp only [List.getElem?_cons_succ]
          exact lanO_get hl
        · simp only [FitM, List.getElem?_cons_zero, List.getElem?_cons_succ]
          exact ⟨olO [0, 1, 2] rfl, oiL, oO_le (by show LeL _ (iL _) (iL _); rw [iL_le]; trivial), trivial⟩
        · simp only [FitE, Le, LeL, List.cons_append, List.nil_append] <;> (try (simp (maxSteps := 2000000) -implicitDefEqProofs only [o_sl, o_grows, o_kill, o_len, o_cap, o_isl, o_le, o_cells, o_one, oOk_c, oOk_o, oO_cells, oO_own, oV_s, oV_0, oO_nil, oO_iL, iL_nil, iL_snoc, List.length_append, s_alt, s_alt20, s_alt2t, s_alt2f, ↓s_loopi, ↓v_pq, ↓PRE, POST, CORE, Nat.reduceDiv, Nat.reduceMod, Int.reduceLT, Int.reduceLE, Int.reduceToNat, Int.reduceAdd, ↓reduceIte, Nat.reduceEqDiff, Nat.reduceAdd, Nat.reduceMul, Nat.reduceSub, Nat.reduceLeDiff, Nat.reduceLT, reduceCtorEq, if_true, eq_self, forall_const, implies_true])) <;> (try simp only [Sz.Le, Sz.LeL, List.getElem?_cons_zero, List.getElem?_cons_succ]) <;> (try simp)
      · intro c hc _
        obtain ⟨l, hl⟩ : ∃ l, L[c]? = some l := ⟨_, List.getElem?_eq_getElem (by omega)⟩
        have hlA : lnA L c = l := by unfold lnA; rw [List.getD_eq_getElem?_getD, hl]; rfl
        have k0 : (0 : Int) ≤ (c : Int) := by omega
        have k1 : (c : Int) < (C : Int) := by omega
        have k2 : c + 1 ≤ C := hc
        have w1 : IntKind.i64.wrap ((c : Int) + 1) = (c : Int) + 1 := Sz.w_64 (by omega) (by omega)
        have hgc := hgcS c l hl
        have htc := @iL_at tk c (by omega)
        have hsb : bestN L tk (c + 1) = stepB L tk (bestN L tk c) c := rfl
        rw [hsb, hlO]
        unfold stepB
        rw [hlA]
        rcases bestN_in L tk c with hb | ⟨hb0, hb1, hb2⟩
        · rw [hb]
          have n1 : (-1 : Int) < 0 := by omega
          by_cases ht : tkA tk c < (l.length : Int)
          · rw [if_pos ⟨ht, .inl n1⟩]
            simp (maxSteps := 2000000) -implicitDefEqProofs only [k0, k1, k2, w1, hgc, htc, hCl, a2, iL_len, ht, n1, o_sl, o_grows, o_kill, o_len, o_cap, o_isl, o_le, o_cells, o_one, oOk_c, oOk_o, oO_cells, oO_own, oV_s, oV_0, oO_nil, oO_iL, iL_nil, iL_snoc, List.length_append, s_alt, s_alt20, s_alt2t, s_alt2f, ↓s_loopi, ↓v_pq, ↓PRE, POST, CORE, Nat.reduceDiv, Nat.reduceMod, Int.reduceLT, Int.reduceLE, Int.reduceToNat, Int.reduceAdd, ↓reduceIte, Nat.reduceEqDiff, Nat.reduceAdd, Nat.reduceMul, Nat.reduceSub, Nat.reduceLeDiff, Nat.reduceLT, reduceCtorEq, if_true, eq_self, forall_const, implies_true]
            rw [← hlO]
            refine fitRq hJ (C := C) (p := 3) (q := 3) (hs := [0, 1, 2]) (heads := [lO, ⟨true, iL tk⟩, oO (iL out)]) hLl rfl rfl (by decide) (fun h hh => .inl (by revert h; decide)) (fun c l hl => ?_) ?_ ?_
            · simp only [List.getElem?_cons_succ]
              exact lanO_get hl
            · simp only [FitM, List.getElem?_cons_zero, List.getElem?_cons_succ]
              exact ⟨olO [0, 1, 2] rfl, oiL, oO_le (by show LeL _ (iL _) (iL _); rw [iL_le]; trivial), trivial⟩
            · simp only [FitE, Le, LeL, List.cons_append, List.nil_append] <;> (try (simp (maxSteps := 2000000) -implicitDefEqProofs only [o_sl, o_grows, o_kill, o_len, o_cap, o_isl, o_le, o_cells, o_one, oOk_c, oOk_o, oO_cells, oO_own, oV_s, oV_0, oO_nil, oO_iL, iL_nil, iL_snoc, List.length_append, s_alt, s_alt20, s_alt2t, s_alt2f, ↓s_loopi, ↓v_pq, ↓PRE, POST, CORE, Nat.reduceDiv, Nat.reduceMod, Int.reduceLT, Int.reduceLE, Int.reduceToNat, Int.reduceAdd, ↓reduceIte, Nat.reduceEqDiff, Nat.reduceAdd, Nat.reduceMul, Nat.reduceSub, Nat.reduceLeDiff, Nat.reduceLT, reduceCtorEq, if_true, eq_self, forall_const, implies_true])) <;> (try simp only [Sz.Le, Sz.LeL, List.getElem?_cons_zero, List.getElem?_cons_succ]) <;> (try simp)
          · rw [if_neg (fun h => ht h.1)]
            simp (maxSteps := 2000000) -implicitDefEqProofs only [k0, k1, k2, w1, hgc, htc, hCl, a2, iL_len, ht, o_sl, o_grows, o_kill, o_len, o_cap, o_isl, o_le, o_cells, o_one, oOk_c, oOk_o, oO_cells, oO_own, oV_s, oV_0, oO_nil, oO_iL, iL_nil, iL_snoc, List.length_append, s_alt, s_alt20, s_alt2t, s_alt2f, ↓s_loopi, ↓v_pq, ↓PRE, POST, CORE, Nat.reduceDiv, Nat.reduceMod, Int.reduceLT, Int.reduceLE, Int.reduceToNat, Int.reduceAdd, ↓reduceIte, Nat.reduceEqDiff, Nat.reduceAdd, Nat.reduceMul, Nat.reduceSub, Nat.reduceLeDiff, Nat.reduceLT, reduceCtorEq, if_true, eq_self, forall_const, implies_true]
            rw [← hlO]
            refine fitRq hJ (C := C) (p := 3) (q := 3) (hs := [0, 1, 2]) (heads := [lO, ⟨true, iL tk⟩, oO (iL out)]) hLl rfl rfl (by decide) (fun h hh => .inl (by revert h; decide)) (fun c l hl => ?_) ?_ ?_
            · simp only [List.getElem?_cons_succ]
              exact lanO_get hl
            · simp only [FitM, List.getElem?_cons_zero, List.getElem?_cons_succ]
              exact ⟨olO [0, 1, 2] rfl, oiL, oO_le (by show LeL _ (iL _) (iL _); rw [iL_le]; trivial), trivial⟩
            · simp only [FitE, Le, LeL, List.cons_append, List.nil_append] <;> (try (simp (maxSteps := 2000000) -implicitDefEqProofs only [o_sl, o_grows, o_kill, o_len, o_cap, o_isl, o_le, o_cells, o_one, oOk_c, oOk_o, oO_cells, oO_own, oV_s, oV_0, oO_nil, oO_iL, iL_nil, iL_snoc, List.length_append, s_alt, s_alt20, s_alt2t, s_alt2f, ↓s_loopi, ↓v_pq, ↓PRE, POST, CORE, Nat.reduceDiv, Nat.reduceMod, Int.reduceLT, Int.reduceLE, Int.reduceToNat, Int.reduceAdd, ↓reduceIte, Nat.reduceEqDiff, Nat.reduceAdd, Nat.reduceMul, Nat.reduceSub, Nat.reduceLeDiff, Nat.reduceLT, reduceCtorEq, if_true, eq_self, forall_const, implies_true])) <;> (try simp only [Sz.Le, Sz.LeL, List.getElem?_cons_zero, List.getElem?_cons_succ]) <;> (try simp)
        · have hbc : bestN L tk c < (C : Int) := by omega
          have htb := @iL_at tk (bestN L tk c).toNat (by omega)
          have hbn : ¬ bestN L tk c < 0 := by omega
          have hbt : (bestN L tk c).toNat + 1 ≤ C := by omega
          generalize bestN L tk c = B at hb0 hb1 hb2 hbc htb hbn hbt ⊢
          by_cases ht : tkA tk c < (l.length : Int)
          · by_cases hq : tkA tk c < tkA tk B.toNat
            · rw [if_pos ⟨ht, .inr hq⟩]
              simp (maxSteps := 2000000) -implicitDefEqProofs only [k0, k1, k2, w1, hgc, htc, hCl, a2, iL_len, ht, hb0, hbc, htb, hbn, hbt, hq, o_sl, o_grows, o_kill, o_len, o_cap, o_isl, o_le, o_cells, o_one, oOk_c, oOk_o, oO_cells, oO_own, oV_s, oV_0, oO_nil, oO_iL, iL_nil, iL_snoc, List.length_append, s_alt, s_alt20, s_alt2t, s_alt2f, ↓s_loopi, ↓v_pq, ↓PRE, POST, CORE, Nat.reduceDiv, Nat.reduceMod, Int.reduceLT, Int.reduceLE, Int.reduceToNat, Int.reduceAdd, ↓reduceIte, Nat.reduceEqDiff, Nat.reduceAdd, Nat.reduceMul, Nat.reduceSub, Nat.reduceLeDiff, Nat.reduceLT, reduceCtorEq, if_true, eq_self, forall_const, implies_true]
              rw [← hlO]
              refine fitRq hJ (C := C) (p := 3) (q := 3) (hs := [0, 1, 2]) (heads := [lO, ⟨true, iL tk⟩, oO (iL out)]) hLl rfl rfl (by decide) (fun h hh => .inl (by revert h; decide)) (fun c l hl => ?_) ?_ ?_
              · simp only [List.getElem?_cons_succ]
                exact lanO_get hl
              · simp only [FitM, List.getElem?_cons_zero, List.getElem?_cons_succ]
                exact ⟨olO [0, 1, 2] rfl, oiL, oO_le (by show LeL _ (iL _) (iL _); rw [iL_le]; trivial), trivial⟩
              · simp only [FitE, Le, LeL, List.cons_append, List.nil_append] <;> (try (simp (maxSteps := 2000000) -implicitDefEqProofs only [o_sl, o_grows, o_kill, o_len, o_cap, o_isl, o_le, o_cells, o_one, oOk_c, oOk_o, oO_cells, oO_own, oV_s, oV_0, oO_nil, oO_iL, iL_nil, iL_snoc, List.length_append, s_alt, s_alt20, s_alt2t, s_alt2f, ↓s_loopi, ↓v_pq, ↓PRE, POST, CORE, Nat.reduceDiv, Nat.reduceMod, Int.reduceLT, Int.reduceLE, Int.reduceToNat, Int.reduceAdd, ↓reduceIte, Nat.reduceEqDiff, Nat.reduceAdd, Nat.reduceMul, Nat.reduceSub, Nat.reduceLeDiff, Nat.reduceLT, reduceCtorEq, if_true, eq_self, forall_const, implies_true])) <;> (try simp only [Sz.Le, Sz.LeL, List.getElem?_cons_zero, List.getElem?_cons_succ]) <;> (try simp)
            · rw [if_neg (fun h => h.2.elim (fun q => hbn q) hq)]
              simp (maxSteps := 2000000) -implicitDefEqProofs only [k0, k1, k2, w1, hgc, htc, hCl, a2, iL_len, ht, hb0, hbc, htb, hbn, hbt, hq, o_sl, o_grows, o_kill, o_len, o_cap, o_isl, o_le, o_cells, o_one, oOk_c, oOk_o, oO_cells, oO_own, oV_s, oV_0, oO_nil, oO_iL, iL_nil, iL_snoc, List.length_append, s_alt, s_alt20, s_alt2t, s_alt2f, ↓s_loopi, ↓v_pq, ↓PRE, POST, CORE, Nat.reduceDiv, Nat.reduceMod, Int.reduceLT, Int.reduceLE, Int.reduceToNat, Int.reduceAdd, ↓reduceIte, Nat.reduceEqDiff, Nat.reduceAdd, Nat.reduceMul, Nat.reduceSub, Nat.reduceLeDiff, Nat.reduceLT, reduceCtorEq, if_true, eq_self, forall_const, implies_true]
              rw [← hlO]
              refine fitRq hJ (C := C) (p := 3) (q := 3) (hs := [0, 1, 2]) (heads := [lO, ⟨true, iL tk⟩, oO (iL out)]) hLl rfl rfl (by decide) (fun h hh => .inl (by revert h; decide)) (fun c l hl => ?_) ?_ ?_
              · simp only [List.getElem?_cons_succ]
                exact lanO_get hl
              · simp only [FitM, List.getElem?_cons_zero, List.getElem?_cons_succ]
                exact ⟨olO [0, 1, 2] rfl, oiL, oO_le (by show LeL _ (iL _) (iL _); rw [iL_le]; trivial), trivial⟩
              · simp only [FitE, Le, LeL, List.cons_append, List.nil_append] <;> (try (simp (maxSteps := 2000000) -implicitDefEqProofs only [o_sl, o_grows, o_kill, o_len, o_cap, o_isl, o_le, o_cells, o_one, oOk_c, oOk_o, oO_cells, oO_own, oV_s, oV_0, oO_nil, oO_iL, iL_nil, iL_snoc, List.length_append, s_alt, s_alt20, s_alt2t, s_alt2f, ↓s_loopi, ↓v_pq, ↓PRE, POST, CORE, Nat.reduceDiv, Nat.reduceMod, Int.reduceLT, Int.reduceLE, Int.reduceToNat, Int.reduceAdd, ↓reduceIte, Nat.reduceEqDiff, Nat.reduceAdd, Nat.reduceMul, Nat.reduceSub, Nat.reduceLeDiff, Nat.reduceLT, reduceCtorEq, if_true, eq_self, forall_const, implies_true])) <;> (try simp only [Sz.Le, Sz.LeL, List.getElem?_cons_zero, List.getElem?_cons_succ]) <;> (try simp)
          · rw [if_neg (fun h => ht h.1)]
            simp (maxSteps := 2000000) -implicitDefEqProofs only [k0, k1, k2, w1, hgc, htc, hCl, a2, iL_len, ht, o_sl, o_grows, o_kill, o_len, o_cap, o_isl, o_le, o_cells, o_one, oOk_c, oOk_o, oO_cells, oO_own, oV_s, oV_0, oO_nil, oO_iL, iL_nil, iL_snoc, List.length_append, s_alt, s_alt20, s_alt2t, s_alt2f, ↓s_loopi, ↓v_pq, ↓PRE, POST, CORE, Nat.reduceDiv, Nat.reduceMod, Int.reduceLT, Int.reduceLE, Int.reduceToNat, Int.reduceAdd, ↓reduceIte, Nat.reduceEqDiff, Nat.reduceAdd, Nat.reduceMul, Nat.reduceSub, Nat.reduceLeDiff, Nat.reduceLT, reduceCtorEq, if_true, eq_self, forall_const, implies_true]
            rw [← hlO]
            refine fitRq hJ (C := C) (p := 3) (q := 3) (hs := [0, 1, 2]) (heads := [lO, ⟨true, iL tk⟩, oO (iL out)]) hLl rfl rfl (by decide) (fun h hh => .inl (by revert h; decide)) (fun c l hl => ?_) ?_ ?_
            · simp only [List.getElem?_cons_succ]
              exact lanO_get hl
            · simp only [FitM, List.getElem?_cons_zero, List.getElem?_cons_succ]
              exact ⟨olO [0, 1, 2] rfl, oiL, oO_le (by show LeL _ (iL _) (iL _); rw [iL_le]; trivial), trivial⟩
            · simp only [FitE, Le, LeL, List.cons_append, List.nil_append] <;> (try (simp (maxSteps := 2000000) -implicitDefEqProofs only [o_sl, o_grows, o_kill, o_len, o_cap, o_isl, o_le, o_cells, o_one, oOk_c, oOk_o, oO_cells, oO_own, oV_s, oV_0, oO_nil, oO_iL, iL_nil, iL_snoc, List.length_append, s_alt, s_alt20, s_alt2t, s_alt2f, ↓s_loopi, ↓v_pq, ↓PRE, POST, CORE, Nat.reduceDiv, Nat.reduceMod, Int.reduceLT, Int.reduceLE, Int.reduceToNat, Int.reduceAdd, ↓reduceIte, Nat.reduceEqDiff, Nat.reduceAdd, Nat.reduceMul, Nat.reduceSub, Nat.reduceLeDiff, Nat.reduceLT, reduceCtorEq, if_true, eq_self, forall_const, implies_true])) <;> (try simp only [Sz.Le, Sz.LeL, List.getElem?_cons_zero, List.getElem?_cons_succ]) <;> (try simp)
      · intro _
        have k1 : ¬ (C : Int) < (C : Int) := by omega
        have hnext : pickS L (x + 1) = (if bestN L tk C < 0 then none else some (out ++ [(lnA L (bestN L tk C).toNat).getD (tkA tk (bestN L tk C).toNat).toNat 0], tk.set (bestN L tk C).toNat (tkA tk (bestN L tk C).toNat + 1))) := by
          rw [← hLl]
          show (pickS L x).bind _ = _
          rw [hI]
          rfl
        rcases bestN_in L tk C with hb | ⟨hb0, hb1, hb2⟩
        · rw [hb] at hnext ⊢
          have n1 : (-1 : Int) < 0 := by omega
          rw [if_pos n1] at hnext
          have hnone : pickS L N = none := by
            have := pickS_none hnext (N - (x + 1))
            rwa [show x + 1 + (N - (x + 1)) = N by omega] at this
          simp (maxSteps := 2000000) -implicitDefEqProofs only [k1, n1, s_alt, s_alt20, s_alt2t, s_alt2f, ↓s_loopi, ↓v_pq, ↓PRE, POST, CORE, Nat.reduceDiv, Nat.reduceMod, Int.reduceLT, Int.reduceLE, Int.reduceToNat, Int.reduceAdd, ↓reduceIte, Nat.reduceEqDiff, Nat.reduceAdd, Nat.reduceMul, Nat.reduceSub, Nat.reduceLeDiff, Nat.reduceLT, reduceCtorEq, if_true, eq_self, forall_const, implies_true]
          refine ⟨[], .tup [.v (.slice none 0 0), .v (.bool false)], [], by simp, trivial, by simp, by simp [Le, LeL], ?_⟩
          simpa [SV.up, upL] using hkn hnone
        · have hbn : ¬ bestN L tk C < 0 := by omega
          rw [if_neg hbn] at hnext
          have htb := @iL_at tk (bestN L tk C).toNat (by omega)
          have hbt : (bestN L tk C).toNat + 1 ≤ C := by omega
          have htk := a3 (bestN L tk C).toNat
          generalize bestN L tk C = B at hb0 hb1 hb2 hbn htb hbt htk hnext ⊢
          obtain ⟨l, hl⟩ : ∃ l, L[B.toNat]? = some l := ⟨_, List.getElem?_eq_getElem (by omega)⟩
          have hlA : lnA L B.toNat = l := by unfold lnA; rw [List.getD_eq_getElem?_getD, hl]; rfl
          rw [hlA] at hb2 hnext htk
          have hlb := hLb B.toNat
          rw [hlA] at hlb
          obtain ⟨t, ht⟩ : ∃ t : Nat, tkA tk B.toNat = (t : Int) := ⟨(tkA tk B.toNat).toNat, by omega⟩
          rw [ht] at hb2 htb htk hnext
          rw [Int.toNat_natCast] at hnext
          have ht1 : t < l.length := by omega
          have q0 : (0 : Int) ≤ (t : Int) := by omega
          have q1 : (t : Int) < (l.length : Int) := hb2
          have q2 : t + 1 ≤ l.length := ht1
          have hlt : (iL l)[t]? = some (.v (.int .i64 (l.getD t 0))) := iL_get ht1
          have hgc := hgcS B.toNat l hl
          have hgo := @lanO_get B.toNat L l hl
          have hatB : ∀ t, (lanO L ++ t)[B.toNat]? = some (oO (iL l)) := fun t => by rw [List.getElem?_append_left (by rw [hTl]; omega)]; exact hgo
          have hov := @iL_over tk B.toNat ((t : Int) + 1) (by omega)
          have w2 : IntKind.i64.wrap ((t : Int) + 1) = (t : Int) + 1 := Sz.w_64 (by omega) (by omega)
          have k3 : out.length + 1 ≤ maxLen := by unfold maxLen; omega
          have k4 : (out.length + 1) * 8 ≤ 140737488355328 := by omega
          rw [hlO]
          simp (maxSteps := 2000000) -implicitDefEqProofs only [k1, hbn, hb0, hb1, htb, hbt, q0, q1, q2, hlt, hgc, hgo, hatB, hov, w2, k3, k4, a2, hTl, hCl, hat0, hat1, iL_len, List.append_assoc, o_sl, o_grows, o_kill, o_len, o_cap, o_isl, o_le, o_cells, o_one, oOk_c, oOk_o, oO_cells, oO_own, oV_s, oV_0, oO_nil, oO_iL, iL_nil, iL_snoc, List.length_append, iL_fold, iL_over, iL_all, iL_get, iL_len, iL_take, iL_drop, iL_one, iL_plain, iL_le, List.length_set, s_alt, s_alt20, s_alt2t, s_alt2f, ↓s_loopi, ↓v_pq, ↓PRE, POST, CORE, Nat.reduceDiv, Nat.reduceMod, Int.reduceLT, Int.reduceLE, Int.reduceToNat, Int.reduceAdd, ↓reduceIte, Nat.reduceEqDiff, Nat.reduceAdd, Nat.reduceMul, Nat.reduceSub, Nat.reduceLeDiff, Nat.reduceLT, reduceCtorEq, if_true, eq_self, forall_const, implies_true]
          refine ⟨_, hnext, ?_⟩
          rw [← hlO]
          have e9 : (out ++ [l.getD t 0]).length = out.length + 1 := by simp
          rw [e9]
          refine fitRq hJ (C := C) (p := 3) (q := 3) (hs := [0, 1, C + 4]) (heads := [lO, ⟨true, iL (tk.set B.toNat ((t : Int) + 1))⟩, oO (iL (out ++ [l.getD t 0]))]) hLl rfl rfl (by simp) (fun h hh => by simp only [List.mem_cons, List.mem_nil_iff, or_false] at hh; omega) (fun c l hl => ?_) ?_ ?_
          · simp only [List.getElem?_cons_succ]
            rw [List.getElem?_append_left (by rw [hTl]; have := some_lt hl; omega)]
            exact lanO_get hl
          · simp only [FitM, List.getElem?_cons_zero, List.getElem?_cons_succ, hat1]
            exact ⟨olO [0, 1, C + 4] rfl, oiL, by rw [oO_al (by simp)]; exact oiL, trivial⟩
          · simp only [FitE, Le, LeL, List.cons_append, List.nil_append] <;> (try (simp (maxSteps := 2000000) -implicitDefEqProofs only [o_sl, o_grows, o_kill, o_len, o_cap, o_isl, o_le, o_cells, o_one, oOk_c, oOk_o, oO_cells, oO_own, oV_s, oV_0, oO_nil, oO_iL, iL_nil, iL_snoc, List.length_append, s_alt, s_alt20, s_alt2t, s_alt2f, ↓s_loopi, ↓v_pq, ↓PRE, POST, CORE, Nat.reduceDiv, Nat.reduceMod, Int.reduceLT, Int.reduceLE, Int.reduceToNat, Int.reduceAdd, ↓reduceIte, Nat.reduceEqDiff, Nat.reduceAdd, Nat.reduceMul, Nat.reduceSub, Nat.reduceLeDiff, Nat.reduceLT, reduceCtorEq, if_true, eq_self, forall_const, implies_true])) <;> (try simp only [Sz.Le, Sz.LeL, List.getElem?_cons_zero, List.getElem?_cons_succ]) <;> (try simp)
    · intro s hI
      obtain ⟨out, tk⟩ := s
      obtain ⟨a1, a2, a3⟩ := pickS_in hI
      simp only at a1 a2 a3 ⊢
      have j1 : ¬ ((out.length : Nat) : Int) < (N : Int) := by omega
      have hk := hks _ hI
      simp only at hk
      simp (maxSteps := 2000000) -implicitDefEqProofs only [j1, o_sl, o_grows, o_kill, o_len, o_cap, o_isl, o_le, o_cells, o_one, oOk_c, oOk_o, oO_cells, oO_own, oV_s, oV_0, oO_nil, oO_iL, iL_nil, iL_snoc, List.length_append, ↓G20, s_alt, s_alt20, s_alt2t, s_alt2f, ↓s_loopi, ↓v_pq, ↓PRE, POST, CORE, Nat.reduceDiv, Nat.reduceMod, Int.reduceLT, Int.reduceLE, Int.reduceToNat, Int.reduceAdd, ↓reduceIte, Nat.reduceEqDiff, Nat.reduceAdd, Nat.reduceMul, Nat.reduceSub, Nat.reduceLeDiff, Nat.reduceLT, reduceCtorEq, if_true, eq_self, forall_const, implies_true]
      by_cases ho : out = []
      · subst ho
        have hs0 : srt [] = [] := List.length_eq_zero_iff.1 (srt_len [])
        rw [hs0] at hk
        refine .inr (.inl ⟨none, 0, rfl, ?_⟩)
        refine ⟨[], .tup [.v (.slice none 0 0), .v (.bool true)], [], by simp, trivial, by simp, by rw [List.length_nil, oV_0]; simp [Le, LeL], ?_⟩
        simpa [SV.up, upL, intS, intM] using hk
      · have hol : out.length ≠ 0 := fun h => ho (List.length_eq_zero_iff.1 h)
        have hv : oV 2 1 out.length = .row 2 0 out.length 1 := by unfold oV; rw [if_neg hol]
        have hsl := srt_len out
        have hsn : srt out ≠ [] := fun h => hol (by rw [← hsl, h]; rfl)
        rw [hv, oO_al ho]
        refine .inl ⟨2, out, rfl, rfl, by omega, ?_⟩
        refine ⟨[2], .tup [.row 0 0 out.length 1, .v (.bool true)], [⟨true, iL (srt out)⟩], by simp, ?_, by simp, by simp [Le, LeL], ?_⟩
        · simp only [FitM, List.set_cons_succ, List.set_cons_zero, List.getElem?_cons_zero, List.getElem?_cons_succ]
          exact ⟨oiL, trivial⟩
        · unfold intS intM at hk
          rw [if_neg hsn, if_neg hsn, hsl] at hk
          simpa [SV.up, upL, SObj.up, iL_up] using hk
end St
end Go.Proofs.Ytibefgdjijmncaa
end
