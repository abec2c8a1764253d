/- Symbolic walks, part E: what the operations that make or change memory come to. No condition. -/
import Derived.Test.YtppndeoiifkkkaaSyD
namespace Go.Proofs.Ytppndeoiifkkkaa.Sy
open Go.RowKit
set_option linter.unusedVariables false
set_option linter.unusedSimpArgs false
section
variable {P : Program} {n : Nat} {r : List Loc} {e : Env} {m : Mem} {a : Act} {base : Nat → Prop} {w0 W : World}
theorem run_app_room (t ty el : TypeId) (i : TypeInfo) (ht : P.underlying t = some (.slice el)) (hi : P.info? el = some i)
    (g o sLen sCap : Nat) (cur : Array Value) (T : TypeId) (hg : W.heap[g]? = some (.cells cur T (0, 0)))
    (b : Addr) (k c : Nat) (news : List Value) (hl : news.length = k * i.size) (hnews : ∀ j u, news[j]? = some u → W.cell? (b.add j) = some u) (h1 : ∀ u ∈ news, u.oneCell' = true)
    (hroom : sLen + k ≤ sCap) (hfit : o + sLen * i.size + news.length ≤ cur.size) :
    (Builtin.append_ #[t, t] ty #[.slice (some ⟨g, o, none⟩) sLen sCap, .slice (some b) k c]).run P W =
      .ok (.slice (some ⟨g, o, none⟩) (sLen + k) sCap) (W.setRow g (cur.toList.take (o + sLen * i.size) ++ news ++ cur.toList.drop (o + sLen * i.size + news.length)).toArray) := by
  have hf := run_firstCells_some (P := P) W i.size k b k c news hl hnews
  have hst := run_storeCells_at P g (o + sLen * i.size) T news 0 cur W hg (by simpa using hfit) h1
  simp only [Nat.add_zero] at hst
  simp [Builtin.append_, run_underlying ht, sizeOf, typeInfo, hi, Builtin.lenOf, hroom, hf, Addr.add_lit, hst]
theorem cells_at {l : Loc} {us : List Value} {o : Nat} (h : ∃ c T fr, W.heap[l.blk]? = some (.cells c T fr) ∧ ∀ (j : Nat) (u : Value), us[j]? = some u → c[l.off + j]? = some u) : ∀ j u, (us.drop o)[j]? = some u → W.cell? ((⟨l.blk, l.off + o, none⟩ : Addr).add j) = some u := by
  obtain ⟨c, T, fr, h1, h2⟩ := h
  intro j u hj
  rw [Addr.add_lit, cell_of_row W _ _ c T fr h1, Nat.add_assoc]
  exact h2 _ _ (by rwa [List.getElem?_drop] at hj)
theorem take_at {xs : List Value} {k : Nat} {Q : Nat → Value → Prop} (h : ∀ j u, xs[j]? = some u → Q j u) : ∀ j u, (xs.take k)[j]? = some u → Q j u := by
  intro j u hj
  rw [List.getElem?_take] at hj
  split at hj
  · exact h j u hj
  · cases hj
/-- What a slice holds, really. -/
theorem slOf_is (hst : St base w0 r m W) {s : SV} {k : Nat} {xs : List SV} {u : Value} (h : slOf m s = some (k, xs)) (hs : s.Is r u) :
    (∃ c, s = .v (.slice none 0 c) ∧ u = .slice none 0 c ∧ k = 0 ∧ xs = []) ∨ (s = .emp ∧ (∃ p c, u = .slice (some p) 0 c) ∧ k = 0 ∧ xs = []) ∨ ∃ kk l o sz cap, s = .row kk o k sz ∧ r[kk]? = some l ∧ k ≤ cap ∧ o + cap * sz ≤ l.room ∧ u = .slice (some ⟨l.blk, l.off + o, none⟩) k cap ∧ ∃ us, SV.IsL r xs us ∧ ∀ j v, us[j]? = some v → W.cell? ((⟨l.blk, l.off + o, none⟩ : Addr).add j) = some v := by
  unfold slOf at h
  split at h
  · rename_i kk o n1 sz
    simp only [SV.Is] at hs
    obtain ⟨l, cap, hl, hcap, hroom, rfl⟩ := hs
    split at h
    · rename_i ob hob
      split at h
      · rename_i hfit
        injection h with h
        injection h with h1 h2
        subst h1
        obtain ⟨us, hus, hW⟩ := obj_cells' (hst.obj kk l ob hl hob)
        refine .inr (.inr ⟨kk, l, o, sz, cap, rfl, hl, hcap, hroom, rfl, _, by rw [← h2]; exact IsL_take _ (IsL_drop _ hus), ?_⟩)
        exact take_at (cells_at (hW W rfl))
      · cases h
    · cases h
  · rename_i c
    injection h with h
    injection h with h1 h2
    simp only [SV.Is] at hs
    exact .inl ⟨c, rfl, hs, h1.symm, h2.symm⟩
  · injection h with h
    injection h with h1 h2
    simp only [SV.Is] at hs
    obtain ⟨p, c, hs, _⟩ := hs
    exact .inr (.inl ⟨rfl, ⟨p, c, hs⟩, h1.symm, h2.symm⟩)
  · cases h
theorem run_append_wp {o : Oper} {Kr : Act → World → Prop} {Q : Exit → Act → World → Prop} {s x : Operand} {t : TypeId} {u : Value} {W1 : World} (ho : o.op = .call { callee := .builtin .append, args := #[s, x], argTypes := #[t, t] })
    (h : (Builtin.append_ #[t, t] o.type #[a.eval s, a.eval x]).run P W = .ok u W1) (hK : Kr (a.put o.dst u) W1) : o.wp P a W Kr Q := by
  refine val_wp ?_ hK
  unfold execOp
  rw [ho]
  simp [resolve, invoke, builtin, h]
theorem app_sound {o : Oper} {Kr : Act → World → Prop} {Q : Exit → Act → World → Prop} {s x : Operand} {t el : TypeId} {i : TypeInfo} {z : Value} {S X : SV}
    (ho : o.op = .call { callee := .builtin .append, args := #[s, x], argTypes := #[t, t] }) (ht : P.underlying t = some (.slice el)) (hi : P.info? el = some i) (hz : i.zero = some z) (hsz : 0 < i.size) (hzs : z.cells.size = i.size)
    (hst : St base w0 r m W) (hs : S.Is r (a.eval s)) (hx : X.Is r (a.eval x)) {k1 k2 : Nat} {xs ys : List SV} (h1 : slOf m S = some (k1, xs)) (h2 : slOf m X = some (k2, ys))
    (hg : grows m i.size S) (hlx : xs.length = k1 * i.size) (hly : ys.length = k2 * i.size) (h0 : 0 < k2) (hone : ys.all SV.one = true) (hmax : k1 + k2 ≤ maxLen) (hby : (k1 + k2) * i.bytes ≤ 140737488355328)
    (hK : ∀ t u W1, St base w0 (r ++ t) (kill m S ++ [⟨true, xs ++ ys⟩]) W1 → (SV.row m.length 0 (k1 + k2) i.size).Is (r ++ t) u → Kr (a.put o.dst u) W1) : o.wp P a W Kr Q := by
  have hsmall : k1 + k2 ≤ 9223372036854775807 := by simp only [maxLen] at hmax; omega
  -- what is appended
  rcases slOf_is hst h2 hx with ⟨c, _, _, hk, _⟩ | ⟨_, _, hk, _⟩ | ⟨xk, xl, xo, xsz, xcap, rfl, hxl, hxc, hxr, hxu, us, hus, hcell⟩
  · omega
  · omega
  have hlu := IsL_len hus
  have h1c : ∀ v ∈ us, v.oneCell' = true := IsL_one hus hone
  have grow : ∀ (olds : List Value) (cap : Nat), SV.IsL r xs olds → ∀ u W1, u = .slice (some ⟨W.heap.size, 0, none⟩) (k1 + k2) cap → k1 + k2 ≤ cap →
      W1 = W.drew.alloc (.cells ((olds ++ us) ++ (Builtin.zeroCells z.cells (cap - (k1 + k2))).toList).toArray el) →
      St base w0 (r ++ [⟨W.heap.size, 0, cap * i.size⟩]) (kill m S ++ [⟨true, xs ++ ys⟩]) W1 ∧ (SV.row m.length 0 (k1 + k2) i.size).Is (r ++ [⟨W.heap.size, 0, cap * i.size⟩]) u := by
    intro olds cap holds u W1 hu hcap hW1
    have hlo := IsL_len holds
    have hd := hst.drew
    have hbelow : Low base W W1 := by rw [hW1]; exact Low.of_below (((Below.refl _ _).drew).alloc (Nat.le_refl _) _)
    have hsame : Same r W W1 := by rw [hW1]; exact Same.below hst (((Below.refl _ _).drew).alloc (Nat.le_refl _) _)
    have hkill : St base w0 r (kill m S) W := by
      unfold kill
      split
      · rename_i kk o' n' s'
        refine ⟨hst.low, hst.from_, by simp [hst.len], fun k' l' y q1 q2 => ?_, fun k1 k2 l1 l2 y1 y2 q1 q2 q3 q4 hne hown hal => ?_⟩
        · rw [List.getElem?_set] at q2
          by_cases ek : kk = k'
          · subst ek
            simp at q2
            obtain ⟨hlt, rfl⟩ := q2
            obtain ⟨⟨c, T, fr, g1, g2, g3, g4⟩, g5, g6⟩ := hst.obj kk l' _ q1 (List.getElem?_eq_getElem hlt)
            exact ⟨⟨c, T, fr, g1, g2, by simp [SV.IsL], by simp⟩, by simp, by simp⟩
          · rw [if_neg ek] at q2
            exact hst.obj k' l' y q1 q2
        · rw [List.getElem?_set] at q3 q4
          by_cases e1 : kk = k1
          · subst e1
            simp at q3
            obtain ⟨_, rfl⟩ := q3
            simp at hown
          · rw [if_neg e1] at q3
            by_cases e2 : kk = k2
            · subst e2
              simp at q4
              obtain ⟨_, rfl⟩ := q4
              simp at hal
            · rw [if_neg e2] at q4
              exact hst.sep k1 k2 l1 l2 y1 y2 q1 q2 q3 q4 hne hown hal
      · exact hst
    have hmul : k1 * i.size + k2 * i.size = (k1 + k2) * i.size := (Nat.add_mul _ _ _).symm
    have hcm : (k1 + k2) * i.size ≤ cap * i.size := Nat.mul_le_mul_right _ hcap
    refine ⟨hkill.add hbelow hsame _ _ ⟨⟨_, el, (0, 0), by rw [hW1]; exact heap_alloc_new _ _, ?_, ?_, fun _ => rfl⟩, by simp; omega, fun _ => hst.from_ _ hst.low.size⟩ (fun k l' o' hl _ _ e => by have := hst.locs l' (List.mem_of_getElem? hl); simp at e; omega), ?_⟩
    · simp [size_zeroCells, hzs, hlo, hlu, hlx, hly]
      rw [← Nat.add_assoc, hmul, ← Nat.add_mul]
      apply Nat.mul_le_mul_right
      omega
    · simp only [List.drop_zero]
      rw [List.take_append_of_le_length (by simp [hlo, hlu]), List.take_of_length_le (by simp [hlo, hlu])]
      exact SV.IsL.grow _ (IsL_append holds hus)
    · simp only [SV.Is]
      refine ⟨⟨W.heap.size, 0, cap * i.size⟩, cap, by rw [← hst.len, List.getElem?_append_right (Nat.le_refl _)]; simp, hcap, by simp, ?_⟩
      simpa using hu
  rcases slOf_is hst h1 hs with ⟨c, hSn, hn, _, _⟩ | ⟨hSe, _, _, _⟩ | ⟨kk, l, so, ssz, cap, rfl, hl, hcap, hroom, hsu, os, hos, hcello⟩
  · -- to nil
    have hn' : S = .v (.slice none 0 0) := by
      subst hSn
      unfold grows at hg
      split at hg
      · rename_i heq; exact heq
      · rename_i heq; cases heq
      · exact hg.elim
    subst hn'
    simp only [SV.Is] at hs
    simp only [slOf] at h1
    injection h1 with h1
    injection h1 with h1 h1'
    subst h1; subst h1'
    have hr := run_append_nil (P := P) W t o.type el i z ht hi hz _ k2 xcap us (by rw [hlu]; exact hly) hcell h0 (by omega) (by have := hby; simp only [Nat.zero_add] at this; omega)
    rw [← hs, ← hxu] at hr
    have hgc := grownCap_ge W k2 0 el
    obtain ⟨g1, g2⟩ := grow [] (grownCap W k2 0 el) (by simp [SV.IsL]) (.slice (some ⟨W.heap.size, 0, none⟩) (0 + k2) (grownCap W k2 0 el)) _ rfl (by omega) rfl
    refine run_append_wp ho (u := .slice (some ⟨W.heap.size, 0, none⟩) (0 + k2) (grownCap W k2 0 el)) (W1 := _) ?_ (hK _ _ _ g1 g2)
    rw [hr]
    simp only [Nat.zero_add, List.nil_append]
    congr 3
    apply Array.ext'
    simp
  · subst hSe; exact hg.elim
  · have hg' := hg
    simp only [grows] at hg'
    obtain ⟨rfl, hg'⟩ := hg'
    split at hg'
    · rename_i ob hob
      obtain ⟨hown, hfull⟩ := hg'
      by_cases hroom2 : k1 + k2 ≤ cap
      · -- in place
        have hO := hst.obj kk l ob hl hob
        obtain ⟨⟨c, T, fr, g1, g2, g3, g4⟩, g5, g6⟩ := hO
        have := g4 hown
        subst this
        have hmul : k1 * i.size + k2 * i.size = (k1 + k2) * i.size := (Nat.add_mul _ _ _).symm
        have hcm : (k1 + k2) * i.size ≤ cap * i.size := Nat.mul_le_mul_right _ hroom2
        have hfit : l.off + so + k1 * i.size + us.length ≤ c.size := by rw [hlu, hly]; omega
        have hr := run_app_room (P := P) t o.type el i ht hi l.blk (l.off + so) k1 cap c T g1 _ k2 xcap us (by rw [hlu]; exact hly) hcell h1c hroom2 hfit
        rw [← hsu, ← hxu] at hr
        generalize hc' : (List.take (l.off + so + k1 * i.size) c.toList ++ us ++ List.drop (l.off + so + k1 * i.size + us.length) c.toList).toArray = c' at hr
        have hsz : c'.size = c.size := by rw [← hc']; simp; omega
        have hW1 := hst.put hl hob hown g1 c' hsz ⟨false, []⟩ ⟨⟨c', T, (0, 0), setRow_heap _ _ _ _ _ _ g1, by rw [hsz]; exact g2, by simp [SV.IsL], by simp⟩, by simp, by simp⟩
        have hadd : St base w0 (r ++ [⟨l.blk, l.off + so, l.room - so⟩]) (m.set kk ⟨false, []⟩ ++ [⟨true, xs ++ ys⟩]) (W.setRow l.blk c') := by
          refine hW1.add (Low.refl _ _) (Same.refl _ _) _ _ ⟨⟨c', T, (0, 0), setRow_heap _ _ _ _ _ _ g1, by simp only; omega, ?_, fun _ => rfl⟩, by simp only [List.length_append]; omega, fun _ => g6 hown⟩ (fun k' l' o' q1 q2 q3 => ?_)
          · refine SV.IsL.grow _ ?_
            have hlx' : (xs ++ ys).length = k1 * i.size + k2 * i.size := by simp [hlx, hly]
            rw [← hc']
            have hxs : xs = (ob.cells.drop so).take (k1 * i.size) := by
              have hh := h1
              simp only [slOf, hob] at hh
              rw [if_pos (by omega)] at hh
              injection hh with hh; injection hh with _ hh
              exact hh.symm
            have e1 : ((List.take (l.off + so + k1 * i.size) c.toList ++ us ++ List.drop (l.off + so + k1 * i.size + us.length) c.toList).drop (l.off + so)).take (xs ++ ys).length = ((c.toList.drop (l.off + so)).take (k1 * i.size)) ++ us := by
              rw [hlx']
              apply List.ext_getElem?
              intro j
              simp only [List.getElem?_take, List.getElem?_drop, List.getElem?_append, List.length_append, List.length_take, List.length_drop, Array.length_toList]
              have hus' : us.length = k2 * i.size := by rw [hlu, hly]
              by_cases j1 : j < k1 * i.size
              · repeat (first | rw [if_pos (by omega)] | rw [if_neg (by omega)])
              · by_cases j2 : j < k1 * i.size + k2 * i.size
                · repeat (first | rw [if_pos (by omega)] | rw [if_neg (by omega)])
                  congr 1
                  omega
                · repeat (first | rw [if_pos (by omega)] | rw [if_neg (by omega)])
                  rw [List.getElem?_eq_none (by omega)]
            simp only [List.toList_toArray]
            rw [e1]
            refine IsL_append ?_ hus
            rw [hxs]
            have := IsL_take (k1 * i.size) (IsL_drop so g3)
            rw [List.drop_take, List.drop_drop, List.take_take, Nat.min_eq_left (by omega)] at this
            exact this
          · rcases Nat.decEq k' kk with hne | rfl
            · have hq2 : m[k']? = some o' := by rwa [List.getElem?_set, if_neg (Ne.symm hne)] at q2
              exact fun e => hst.sep kk k' l l' ob o' hl q1 hob hq2 (Ne.symm hne) hown q3 e.symm
            · rw [List.getElem?_set, if_pos rfl] at q2
              split at q2
              · injection q2 with q2; subst q2; simp at q3
              · cases q2
        refine run_append_wp ho hr (hK [⟨l.blk, l.off + so, l.room - so⟩] _ _ hadd ?_)
        simp only [SV.Is]
        refine ⟨⟨l.blk, l.off + so, l.room - so⟩, cap, by rw [← hst.len, List.getElem?_append_right (Nat.le_refl _)]; simp, hroom2, by simp only; omega, ?_⟩
        simp [hsu]
      · -- grown
        have hlo := IsL_len hos
        have hr := run_append_grow (P := P) W t o.type el i z ht hi hz ⟨l.blk, l.off + so, none⟩ k1 cap os (by rw [hlo]; exact hlx) hcello _ k2 xcap us (by rw [hlu]; exact hly) hcell (by omega) (by omega) (growslice_fits (by omega) hby)
        rw [← hsu, ← hxu] at hr
        have hgc := grownCap_ge W (k1 + k2) cap el
        obtain ⟨q1, q2⟩ := grow os (grownCap W (k1 + k2) cap el) hos _ _ rfl hgc rfl
        refine run_append_wp ho ?_ (hK _ _ _ q1 q2)
        rw [hr]
        congr 3
        apply Array.ext'
        simp
    · exact hg'.elim
theorem app_zero {o : Oper} {Kr : Act → World → Prop} {Q : Exit → Act → World → Prop} {s x : Operand} {t el : TypeId} {i : TypeInfo} {S X : SV}
    (ho : o.op = .call { callee := .builtin .append, args := #[s, x], argTypes := #[t, t] }) (ht : P.underlying t = some (.slice el)) (hi : P.info? el = some i)
    (hst : St base w0 r m W) (hs : S.Is r (a.eval s)) (hx : X.Is r (a.eval x)) {k1 : Nat} {xs ys : List SV} (h1 : slOf m S = some (k1, xs)) (h2 : slOf m X = some (0, ys)) (hK : Kr (a.put o.dst (a.eval s)) W) : o.wp P a W Kr Q := by
  have hsv : ∃ p n c, a.eval s = .slice p n c ∧ n ≤ c := by
    rcases slOf_is hst h1 hs with ⟨c, _, hn, _, _⟩ | ⟨_, ⟨p, c, hn⟩, _, _⟩ | ⟨kk, l, so, ssz, cap, _, hl, hcap, hroom, hsu, _⟩
    · exact ⟨_, _, _, hn, Nat.zero_le _⟩
    · exact ⟨_, _, _, hn, Nat.zero_le _⟩
    · exact ⟨_, _, _, hsu, hcap⟩
  have hxv : ∃ p c, a.eval x = .slice p 0 c := by
    rcases slOf_is hst h2 hx with ⟨c, _, hn, _, _⟩ | ⟨_, ⟨p, c, hn⟩, _, _⟩ | ⟨kk, l, so, ssz, cap, _, hl, hcap, hroom, hsu, _⟩
    · exact ⟨_, _, hn⟩
    · exact ⟨_, _, hn⟩
    · exact ⟨_, _, hsu⟩
  obtain ⟨p, n1, c1, hsv, hle⟩ := hsv
  obtain ⟨q, c2, hxv⟩ := hxv
  refine run_append_wp ho ?_ hK
  rw [hsv, hxv]
  have hf : (Builtin.firstCells i.size 0 (.slice q 0 c2)).run P W = .ok #[] W := by
    cases q <;> simp [Builtin.firstCells, loadCells, loadCellsFrom]
  cases p <;> simp [Builtin.append_, run_underlying ht, sizeOf, typeInfo, hi, Builtin.lenOf, hle, hf, storeCells]
/-- What an operation comes to. -/
theorem compB_sound {G : List CEntry} (hG : GOk P G) {o : Oper} {xb : XB} {K : SV → Mem → Prop} (hc : compB P o.op = some xb) (h : evB G xb e m K) (hst : St base w0 r m W) (he : EnvIs n r e a.tmps)
    {Kr : Act → World → Prop} {Q : Exit → Act → World → Prop} (hK : ∀ s m' t u W1, K s m' → St base w0 (r ++ t) m' W1 → s.Is (r ++ t) u → (quiet G e xb = true → Same r W W1) → Kr (a.put o.dst u) W1) : o.wp P a W Kr Q := by
  have hg := he.get
  unfold compB at hc
  split at hc
  · rename_i xa hxa
    injection hc with hc; subst hc
    simp only [evB] at h
    obtain ⟨s, u, h1, h2, h3⟩ := compA_sound hxa h hst he
    exact val_wp (h3 W fun _ => Same.refl _ _) (hK s m [] u W h1 (by simpa using hst) (by simpa using h2) fun _ => Same.refl _ _)
  rename_i hA
  obtain ⟨dst, op, type, pos, after, guard⟩ := o
  dsimp only at hc hA hK ⊢
  split at hc
  case h_1 t x =>
    injection hc with hc; subst hc
    simp only [evB] at h
    split at h
    · rename_i cs hcs
      have hus := cells_is hcs (hg x)
      obtain ⟨h1, h2⟩ := hst.new hus t
      refine val_wp (o := ⟨dst, .box t x, type, pos, after, guard⟩) (W1 := W.alloc (.cells (a.eval x).cells t)) (u := .pointer (some ⟨W.heap.size, 0, none⟩)) ?_ (hK _ _ _ _ _ h h1 ?_ fun _ => h2)
      · simp [execOp, Instr.box, newVar, newRow]
      · simp only [SV.Is]
        exact ⟨⟨W.heap.size, 0, _⟩, by rw [← hst.len, List.getElem?_append_right (Nat.le_refl _)]; simp; rfl, by simp⟩
    · exact h.elim
  case h_2 t parts =>
    obtain ⟨i, hi, hc⟩ := Option.bind_eq_some_iff.1 hc
    obtain ⟨z, hz, hc⟩ := Option.bind_eq_some_iff.1 hc
    split at hc
    · rename_i fs hu
      split at hc
      · rename_i hall
        obtain ⟨xs, hxs, hc⟩ := Option.map_eq_some_iff.1 hc
        subst hc
        simp only [evB] at h
        split at h
        · rename_i cs hcs
          obtain ⟨us, hf, hus⟩ := compParts_is (e := e) (ev := a.eval) hg hxs (svCells_is z) hcs
          refine val_wp (o := ⟨dst, .build t parts, type, pos, after, guard⟩) (W1 := W) (u := .agg us) ?_ (hK _ m [] _ W h (by simpa using hst) ?_ fun _ => Same.refl _ _)
          · have hpl := run_places (P := P) hall W
            have hpl' : (fs.mapM fun f => (do pure (f.offset, ← sizeOf f.type) : Sem (Nat × Nat))).run P W = .ok (fs.map fun f => (f.offset, ((P.info? f.type).map (·.size)).getD 0)) W := by
              rw [Array.mapM_eq_mapM_toList]
              simp only [map_eq_pure_bind, Sem.run_bind, hpl, Result.andThen_ok, Sem.run_pure]
              congr 1
              apply Array.ext'
              simp
            have hfe : (fun j => ((fs.map fun f => (f.offset, ((P.info? f.type).map (·.size)).getD 0))[j]? : Option (Nat × Nat))) = fun (i : Nat) => (fs[i]?).bind fun (f : Field) => (P.info? f.type).map fun j => (f.offset, j.size) := by
              funext j
              rw [Array.getElem?_map]
              cases hj : fs[j]? with
              | none => rfl
              | some f =>
                simp only [Option.map_some, Option.bind_some]
                have : f ∈ fs.toList := by
                  rw [Array.getElem?_eq_some_iff] at hj
                  obtain ⟨_, rfl⟩ := hj
                  simp
                have hs := List.all_eq_true.1 hall f this
                obtain ⟨y, hy⟩ := Option.isSome_iff_exists.1 hs
                simp [hy]
            rw [← hfe] at hf
            simp only [execOp, Instr.build, zeroValue, typeInfo, Sem.run_bind, run_program, hi, Result.andThen_ok, Sem.run_pure, hz, run_underlying hu, hpl']
            rw [show (parts.map fun x => (x.1, a.eval x.2)).toList = parts.toList.map fun p => (p.1, a.eval p.2) by simp]
            rw [hf]
            simp
          · simp only [SV.Is]
            exact ⟨us.toList, by simp, by simpa using hus⟩
        · exact h.elim
      · cases hc
    · rename_i n1 el hu
      obtain ⟨j, hj, hc⟩ := Option.bind_eq_some_iff.1 hc
      obtain ⟨xs, hxs, hc⟩ := Option.map_eq_some_iff.1 hc
      subst hc
      simp only [evB] at h
      split at h
      · rename_i cs hcs
        obtain ⟨us, hf, hus⟩ := compParts_is (e := e) (ev := a.eval) hg hxs (svCells_is z) hcs
        refine val_wp (o := ⟨dst, .build t parts, type, pos, after, guard⟩) (W1 := W) (u := .agg us) ?_ (hK _ m [] _ W h (by simpa using hst) ?_ fun _ => Same.refl _ _)
        · simp only [execOp, Instr.build, zeroValue, typeInfo, Sem.run_bind, run_program, hi, Result.andThen_ok, Sem.run_pure, hz, run_underlying hu, sizeOf, hj]
          rw [show (parts.map fun x => (x.1, a.eval x.2)).toList = parts.toList.map fun p => (p.1, a.eval p.2) by simp]
          rw [hf]
          simp
        · simp only [SV.Is]
          exact ⟨us.toList, by simp, by simpa using hus⟩
      · exact h.elim
    · cases hc
  case h_3 t len parts =>
    split at hc
    · rename_i el hu
      obtain ⟨j, hj, hc⟩ := Option.bind_eq_some_iff.1 hc
      obtain ⟨z, hz, hc⟩ := Option.bind_eq_some_iff.1 hc
      split at hc
      · rename_i hlim
        obtain ⟨xs, hxs, hc⟩ := Option.map_eq_some_iff.1 hc
        subst hc
        simp only [evB] at h
        split at h
        · rename_i cs hcs
          have hzero : SV.IsL r ((List.range (len * j.size)).map fun i => SV.v (z.cells[i % z.cells.size]!)) (((Array.range (len * j.size)).map fun i => z.cells[i % z.cells.size]!).toList) := by
            have := IsL_v (r := r) ((List.range (len * j.size)).map fun i => z.cells[i % z.cells.size]!)
            simpa [List.map_map, Function.comp_def] using this
          obtain ⟨us, hf, hus⟩ := compParts_is (e := e) (ev := a.eval) hg hxs hzero hcs
          obtain ⟨h1, h2⟩ := hst.new hus el
          have hsz : us.size = len * j.size := by
            have e1 := IsL_len hus
            have e2 : cs.length = len * j.size := by
              have key : ∀ (ps : List (Nat × Nat × SV)) (l cs : List SV), fillS l ps = some cs → cs.length = l.length := by
                intro ps
                induction ps with
                | nil => intro l cs h; simp only [fillS] at h; injection h with h; rw [h]
                | cons p ps ih =>
                  obtain ⟨o1, z1, s1⟩ := p
                  intro l cs h
                  simp only [fillS] at h
                  split at h
                  · split at h
                    · rename_i c1 _ hcond
                      rw [ih _ _ h, over_len (by omega)]
                    · cases h
                  · cases h
              have := key _ _ _ hcs
              simpa using this
            rw [← e2, ← e1]; simp
          refine val_wp (o := ⟨dst, .buildSlice t len parts, type, pos, after, guard⟩) (W1 := W.alloc (.cells us el)) (u := .slice (some ⟨W.heap.size, 0, none⟩) len len) ?_ (hK _ _ [⟨W.heap.size, 0, us.size⟩] _ _ h (by simpa using h1) ?_ fun _ => by simpa using h2)
          · have hlim' : ¬ (len * j.size > 2 ^ 24) := by omega
            simp only [execOp, Instr.buildSlice, Sem.run_bind, run_underlying hu, Result.andThen_ok, sizeOf, typeInfo, run_program, hj, Sem.run_pure, if_neg hlim', zeroValue, hz]
            by_cases h0 : len * j.size = 0
            · simp only [h0, if_true, Sem.run_pure, Sem.run_bind, Result.andThen_ok]
              rw [show (parts.map fun x => (x.1, a.eval x.2)).toList = parts.toList.map fun p => (p.1, a.eval p.2) by simp]
              rw [h0] at hf
              have e0 : ((Array.range 0).map fun x => (#[] : Array Value)[x % (#[] : Array Value).size]!) = (Array.range 0).map fun i => z.cells[i % z.cells.size]! := by simp
              rw [e0, hf]
              simp [newRow]
            · simp only [h0, if_false, Sem.run_pure, Sem.run_bind, Result.andThen_ok, typeInfo, run_program, hj, hz]
              rw [show (parts.map fun x => (x.1, a.eval x.2)).toList = parts.toList.map fun p => (p.1, a.eval p.2) by simp]
              rw [hf]
              simp [newRow]
          · simp only [SV.Is]
            exact ⟨⟨W.heap.size, 0, us.size⟩, len, by rw [← hst.len, List.getElem?_append_right (Nat.le_refl _)]; simp, Nat.le_refl _, by simp [hsz], by simp⟩
        · exact h.elim
      · cases hc
    · cases hc
  case h_4 t =>
    obtain ⟨i, hi, hc⟩ := Option.bind_eq_some_iff.1 hc
    obtain ⟨z, hz, hc⟩ := Option.map_eq_some_iff.1 hc
    subst hc
    simp only [evB] at h
    obtain ⟨h1, h2⟩ := hst.new (svCells_is z) t
    refine val_wp (o := ⟨dst, .alloc t, type, pos, after, guard⟩) (W1 := W.alloc (.cells z.cells t)) (u := .pointer (some ⟨W.heap.size, 0, none⟩)) ?_ (hK _ _ _ _ _ h (by simpa using h1) ?_ fun _ => by simpa using h2)
    · simp [execOp, Instr.alloc, newVar, newRow, zeroValue, typeInfo, hi, hz]
    · simp only [SV.Is]
      exact ⟨_, by rw [← hst.len, List.getElem?_append_right (Nat.le_refl _)]; simp; rfl, by simp⟩
  case h_5 t x y =>
    obtain ⟨i, hi, hc⟩ := Option.map_eq_some_iff.1 hc
    subst hc
    simp only [evB] at h
    have hx := hg x
    split at h
    · rename_i k o cs hxx hcs
      rw [hxx] at hx
      simp only [SV.Is] at hx
      obtain ⟨l, hl, hu⟩ := hx
      have hus := cells_is hcs (hg y)
      split at h
      · rename_i ob hob
        obtain ⟨⟨hown, hlen, hfit, hone⟩, h⟩ := h
        have hO := hst.obj k l ob hl hob
        obtain ⟨⟨c, T, fr, g1, g2, g3, g4⟩, g5, g6⟩ := hO
        have := g4 hown
        subst this
        have hsl := IsL_len hus
        simp only [Array.length_toList] at hsl
        have h1c := IsL_one hus hone
        have hfit2 : l.off + o + 0 + (a.eval y).cells.toList.length ≤ c.size := by simp only [Array.length_toList]; omega
        have hrun := run_storeCells_at P l.blk (l.off + o) T (a.eval y).cells.toList 0 c W g1 hfit2 h1c
        simp only [Nat.add_zero] at hrun
        generalize hc' : (List.take (l.off + o) c.toList ++ (a.eval y).cells.toList ++ List.drop (l.off + o + (a.eval y).cells.toList.length) c.toList).toArray = c' at hrun
        have hsz : c'.size = c.size := by rw [← hc']; simp; omega
        have hW1 := hst.put hl hob hown g1 c' hsz ⟨true, over ob.cells o cs⟩ ⟨⟨c', T, (0, 0), setRow_heap _ _ _ _ _ _ g1, by rw [hsz]; exact g2, ?_, fun _ => rfl⟩, by simp only; rw [over_len (by omega)]; exact g5, fun _ => g6 hown⟩
        · refine skip_wp (o := ⟨dst, .store t x y, type, pos, after, guard⟩) (W1 := W.setRow l.blk c') ?_ (hK _ _ [] _ _ h (by simpa using hW1) (by simp only [SV.Is]; exact ⟨[], rfl, by simp [SV.IsL]⟩) (by simp [quiet]))
          simp only [execOp, Instr.storeAt, hu, Instr.sureAddr, Sem.run_bind, Sem.run_pure, Result.andThen_ok, storeVar, sizeOf, typeInfo, run_program, hi]
          rw [if_neg (by omega)]
          simp only [Sem.run_bind, Sem.run_pure, Result.andThen_ok, hrun]
        · rw [over_len (by omega), ← hc']
          simp only [List.toList_toArray]
          rw [real_over _ _ _ _ _ (by simp only [Array.length_toList]; omega) (by simp only [Array.length_toList]; omega)]
          exact IsL_over _ g3 hus
      · exact h.elim
    · exact h.elim
  case h_6 f args argTypes =>
    injection hc with hc; subst hc
    simp only [evB] at h
    have hf := hg f
    split at h
    · rename_i fid cap hfx
      rw [hfx] at hf
      simp only [SV.Is] at hf
      obtain ⟨us, hfu, hus⟩ := hf
      split at h
      · rename_i c hlook
        obtain ⟨⟨fn, hfn, hname, hbody⟩, hcalls⟩ := look_ok hG hlook
        have hargs : SV.IsL r ((args.toList.map XO.of).map (XO.get e) ++ cap) ((args.map a.eval).toList ++ us) := by
          refine IsL_append ?_ hus
          rw [List.map_map, Array.toList_map]
          exact ev_list hg _
        have hcall := hcalls _ m _ base w0 W r _ h hst hargs
        unfold Oper.wp
        have hrun : (execOp a.eval ⟨dst, .call { callee := .value f, args := args, argTypes := argTypes }, type, pos, after, guard⟩).run P W = .ok (.enter fid ((args.map a.eval).toList ++ us).toArray) W := by
          have hb : fn.body ≠ none := by intro hb; simp [hb] at hbody
          have hname' : ¬ fn.name = "runtime.NumGoroutine" := by simpa using hname
          have e2 : ((args.map a.eval).toList ++ us).toArray = args.map a.eval ++ us.toArray := by apply Array.ext'; simp
          rw [e2]
          simp [execOp, resolve, hfu, Deferred.ofValue, invoke, callFunc, hfn, hname', hb]
        rw [hrun]
        simp only [Oper.upon]
        refine hcall.mono ?_
        rintro en W1 ⟨s, m', t, u, hk, rfl, hst1, hs1, hq⟩
        exact hK s m' t u W1 hk hst1 hs1 (fun hqq => hq (by simpa [quiet, hfx, hlook] using hqq))
      · exact h.elim
    · exact h.elim
  case h_7 args argTypes =>
    split at hc
    · rename_i s x t t' hax hat
      obtain rfl : args = #[s, x] := by cases args; simp_all
      obtain rfl : argTypes = #[t, t'] := by cases argTypes; simp_all
      split at hc
      · rename_i el hu
        split at hc
        · rename_i htt
          subst htt
          obtain ⟨i, hi, hc⟩ := Option.bind_eq_some_iff.1 hc
          obtain ⟨z, hz, hc⟩ := Option.bind_eq_some_iff.1 hc
          split at hc
          · rename_i hcond
            injection hc with hc; subst hc
            simp only [evB] at h
            split at h
            · rename_i k1 xs k2 ys hs1 hs2
              split at h
              · rename_i hk0
                subst hk0
                exact app_zero (o := ⟨dst, .call { callee := .builtin .append, args := #[s, x], argTypes := #[t, t] }, type, pos, after, guard⟩) rfl hu hi hst (hg s) (hg x) hs1 hs2
                  (hK _ _ [] _ _ h (by simpa using hst) (by simpa using hg s) (by simp [quiet]))
              obtain ⟨⟨q1, q2, q3, q4, q5, q6, q7⟩, h⟩ := h
              exact app_sound (o := ⟨dst, .call { callee := .builtin .append, args := #[s, x], argTypes := #[t, t] }, type, pos, after, guard⟩) rfl hu hi hz hcond.1 hcond.2 hst (hg s) (hg x) hs1 hs2 q1 q2 q3 q4 q5 q6 q7
                (fun t u W1 g1 g2 => hK _ _ t u W1 h g1 g2 (by simp [quiet]))
            · exact h.elim
          · cases hc
        · cases hc
      · cases hc
    · cases hc
  case h_8 => cases hc
end
end Go.Proofs.Ytppndeoiifkkkaa.Sy
