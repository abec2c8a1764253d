/- Symbolic walks, part E: what the operations that make or change memory come to. No condition. -/
import Derived.Test.YtibefgdjijmncaaSzD
import Derived.Laws.MakeOwn
import Derived.Laws.IdiomStrings
namespace Go.Proofs.Ytibefgdjijmncaa.Sz
open Go.RowKit
set_option linter.unusedVariables false
set_option linter.unusedSimpArgs false
section
variable {P : Program} {n : Nat} {r : List Loc} {e : Env} {m : Mem} {a : Act} {base : Nat → Prop} {w0 W : World}
/-- What is appended: its cells, in this world and when a number has been drawn. -/
structure SrcIs (P : Program) (W : World) (t' : TypeId) (z : Nat) (xv : Value) (k : Nat) (us : List Value) : Prop where
  ty : (∃ e, P.underlying t' = some (.slice e)) ∨ P.underlying t' = some .string
  len : ∀ w, (Builtin.lenOf xv).run P w = .ok k w
  now : (Builtin.firstCells z k xv).run P W = .ok us.toArray W
  drawn : (Builtin.firstCells z k xv).run P W.drew = .ok us.toArray W.drew
theorem St.kill1 [Inp] (hst : St base w0 r m W) (j : Nat) : St base w0 r (m.set j ⟨false, []⟩) W := by
  have hget : ∀ (k' : Nat) (y : SObj), (m.set j ⟨false, []⟩)[k']? = some y → (k' = j ∧ y = ⟨false, []⟩ ∧ j < m.length) ∨ (k' ≠ j ∧ m[k']? = some y) := by
    intro k' y hy
    rw [List.getElem?_set] at hy
    by_cases e : j = k'
    · subst e
      simp at hy
      exact .inl ⟨rfl, hy.2.symm, hy.1⟩
    · rw [if_neg e] at hy
      exact .inr ⟨fun x => e x.symm, hy⟩
  obtain ⟨F, hF⟩ := hst.hid
  refine ⟨hst.low, hst.from_, hst.inp, by simp [hst.len], fun k' l' y q1 q2 => ?_, fun k1 k2 l1 l2 y1 y2 q1 q2 q3 q4 hne hown hal => ?_, fun i => if i = j then [] else F i, fun i x y h1 h2 => ?_, fun i b hb => ?_, fun i b hb k' x y h1 h2 hal => ?_, fun i i' b hb hb' => ?_⟩
  · rcases hget k' y q2 with ⟨rfl, rfl, hlt⟩ | ⟨hne, hy⟩
    · exact .dead (hst.obj k' l' _ q1 (List.getElem?_eq_getElem hlt)).lt
    · exact hst.obj k' l' y q1 hy
  · rcases hget k1 y1 q3 with ⟨rfl, rfl, _⟩ | ⟨hne1, hy1⟩
    · simp at hown
    · rcases hget k2 y2 q4 with ⟨rfl, rfl, _⟩ | ⟨hne2, hy2⟩
      · simp at hal
      · exact hst.sep k1 k2 l1 l2 y1 y2 q1 q2 hy1 hy2 hne hown hal
  · rcases hget i y h2 with ⟨rfl, rfl, _⟩ | ⟨hne, hy⟩
    · simp
    · simp only [if_neg hne]; exact hF.is i x y h1 hy
  · split at hb
    · simp at hb
    · exact hF.base i b hb
  · split at hb
    · simp at hb
    · rcases hget k' y h2 with ⟨rfl, rfl, _⟩ | ⟨hne, hy⟩
      · simp at hal
      · exact hF.far i b hb k' x y h1 hy hal
  · split at hb
    · simp at hb
    · split at hb'
      · simp at hb'
      · exact hF.apart i i' b hb hb'
theorem St.kill [Inp] (hst : St base w0 r m W) (S : SV) : St base w0 r (kill m S) W := by
  unfold Sz.kill
  split
  · exact hst.kill1 _
  · exact hst
theorem run_app_room (t t' ty el : TypeId) (i : TypeInfo) (ht : P.underlying t = some (.slice el)) (hi : P.info? el = some i)
    (g o sLen sCap : Nat) (cur : Array Value) (T : TypeId) (hg : W.heap[g]? = some (.cells cur T (0, 0)))
    (xv : Value) (k : Nat) (news : List Value) (hl : news.length = k * i.size) (hs : SrcIs P W t' i.size xv k news) (h1 : ∀ u ∈ news, u.oneCell' = true)
    (hroom : sLen + k ≤ sCap) (hfit : o + sLen * i.size + news.length ≤ cur.size) :
    (Builtin.append_ #[t, t'] ty #[.slice (some ⟨g, o, none⟩) sLen sCap, xv]).run P W =
      .ok (.slice (some ⟨g, o, none⟩) (sLen + k) sCap) (W.setRow g (cur.toList.take (o + sLen * i.size) ++ news ++ cur.toList.drop (o + sLen * i.size + news.length)).toArray) := by
  obtain ⟨hty, hlen, hnow, hdrawn⟩ := hs
  have hst := run_storeCells_at P g (o + sLen * i.size) T news 0 cur W hg (by simpa using hfit) h1
  simp only [Nat.add_zero] at hst
  rcases hty with ⟨e, he⟩ | he <;> simp [Builtin.append_, run_underlying ht, run_underlying he, sizeOf, typeInfo, hi, hlen, hroom, hnow, Addr.add_lit, hst]
theorem run_app_grow (t t' ty el : TypeId) (i : TypeInfo) (z : Value) (ht : P.underlying t = some (.slice el)) (hi : P.info? el = some i) (hz : i.zero = some z)
    (b : Option Addr) (sLen sCap : Nat) (olds : List Value) (holds : (Builtin.firstCells i.size sLen (.slice b sLen sCap)).run P W.drew = .ok olds.toArray W.drew)
    (xv : Value) (k : Nat) (news : List Value) (hs : SrcIs P W t' i.size xv k news)
    (hg : sCap < sLen + k) (h63 : ((sLen + k : Nat) : Int) ≤ 9223372036854775807) (hfit : Builtin.nextslicecap (sLen + k) sCap * i.bytes ≤ 281474976710656) :
    (Builtin.append_ #[t, t'] ty #[.slice b sLen sCap, xv]).run P W =
      .ok (.slice (some ⟨W.heap.size, 0, none⟩) (sLen + k) (grownCap W (sLen + k) sCap el))
        (W.drew.alloc (.cells ((olds ++ news) ++ (Builtin.zeroCells z.cells (grownCap W (sLen + k) sCap el - (sLen + k))).toList).toArray el)) := by
  obtain ⟨hty, hlen, hnow, hdrawn⟩ := hs
  have hn : ¬ (sLen + k ≤ sCap) := by omega
  have h63' : ¬ (9223372036854775807 < ((sLen : Int) + (k : Int))) := by omega
  have h48' : ¬ (281474976710656 < Builtin.nextslicecap (sLen + k) sCap * i.bytes) := by omega
  rcases hty with ⟨e, he⟩ | he
  all_goals
    simp [Builtin.append_, run_underlying ht, run_underlying he, sizeOf, typeInfo, zeroValue, hi, hz, hlen, hn, h63', h48', Question.forced, hdrawn, holds, newRow, grownCap]
    congr 2
    apply Array.ext'
    simp [List.append_assoc]
theorem cells_at {l : Loc} {us : List Value} {o : Nat} (h : ∃ c T fr, W.heap[l.blk]? = some (.cells c T fr) ∧ ∀ (j : Nat) (u : Value), us[j]? = some u → c[l.off + j]? = some u) : ∀ j u, (us.drop o)[j]? = some u → W.cell? ((⟨l.blk, l.off + o, none⟩ : Addr).add j) = some u := by
  obtain ⟨c, T, fr, h1, h2⟩ := h
  intro j u hj
  rw [Addr.add_lit, cell_of_row W _ _ c T fr h1, Nat.add_assoc]
  exact h2 _ _ (by rwa [List.getElem?_drop] at hj)
theorem take_at {xs : List Value} {k : Nat} {Q : Nat → Value → Prop} (h : ∀ j u, xs[j]? = some u → Q j u) : ∀ j u, (xs.take k)[j]? = some u → Q j u := by
  intro j u hj
  rw [List.getElem?_take] at hj
  split at hj
  · exact h j u hj
  · cases hj
theorem firstCells_at {p : Option Addr} {k c z : Nat} {us : List Value} (hl : us.length = k * z) (h : (∃ a, p = some a ∧ ∀ j v, us[j]? = some v → W.cell? (a.add j) = some v) ∨ (p = none ∧ us = [])) :
    (Builtin.firstCells z k (.slice p k c)).run P W = .ok us.toArray W := by
  rcases h with ⟨a, rfl, h⟩ | ⟨rfl, rfl⟩
  · exact run_firstCells_some (P := P) W z k a k c us hl h
  · simp [Builtin.firstCells]
theorem Same.drew_ [Inp] (hst : St base w0 r m W) : Same r W W.drew := Same.below hst (Below.refl _ _).drew
/-- A slice as what is appended. -/
theorem src_of_sl [Inp] (hst : St base w0 r m W) {s : SV} {z k : Nat} {xs : List SV} {u : Value} {t' e : TypeId} (ht : P.underlying t' = some (.slice e)) (h : slOf m z s = some (k, xs)) (hs : s.Is r u) (hl : xs.length = k * z) :
    ∃ us, SV.IsL r xs us ∧ SrcIs P W t' z u k us ∧ (∃ p c, u = .slice p k c) := by
  obtain ⟨p, c, us, rfl, hus, hlen, hcell⟩ := sl_cells hst h hs
  refine ⟨us, hus, ⟨.inl ⟨e, ht⟩, fun w => by simp [Builtin.lenOf], firstCells_at (by rw [hlen, hl]) ?_, firstCells_at (by rw [hlen, hl]) ?_⟩, p, c, rfl⟩
  · rcases hcell with ⟨a, rfl, hc⟩ | hn
    · exact .inl ⟨a, rfl, hc W (Same.refl _ _)⟩
    · exact .inr hn
  · rcases hcell with ⟨a, rfl, hc⟩ | hn
    · exact .inl ⟨a, rfl, hc _ (Same.drew_ hst)⟩
    · exact .inr hn
theorem bytesC_is (b : ByteArray) : SV.IsL r (bytesC b) (b.data.toList.map fun x => Value.int .u8 x.toNat) := by
  have := IsL_v (r := r) (b.data.toList.map fun x => Value.int .u8 x.toNat)
  simpa [bytesC, List.map_map, Function.comp_def] using this
theorem bytesC_len (b : ByteArray) : (bytesC b).length = b.size := by
  simp [bytesC]
theorem bytesC_one (b : ByteArray) : (bytesC b).all SV.one = true := by
  unfold bytesC
  rw [List.all_eq_true]
  intro x hx
  obtain ⟨y, _, rfl⟩ := List.mem_map.1 hx
  rfl
/-- A text as what is appended. -/
theorem src_of_str (b : ByteArray) {t' : TypeId} (ht : P.underlying t' = some .string) : SrcIs P W t' 1 (.string b) b.size (b.data.toList.map fun x => Value.int .u8 x.toNat) := by
  have hf : ∀ w, (Builtin.firstCells 1 b.size (.string b)).run P w = .ok (b.data.toList.map fun x => Value.int .u8 x.toNat).toArray w := by
    intro w
    simp only [Builtin.firstCells, Sem.run_pure]
    congr 1
    have : b.extract 0 b.size = b := by
      exact ByteArray.extract_zero_size
    rw [this]
    apply Array.ext'
    simp
  exact ⟨.inr ht, fun w => by simp [Builtin.lenOf], hf _, hf _⟩
theorem run_append_wp {o : Oper} {Kr : Act → World → Prop} {Q : Exit → Act → World → Prop} {s x : Operand} {t t' : TypeId} {u : Value} {W1 : World} (ho : o.op = .call { callee := .builtin .append, args := #[s, x], argTypes := #[t, t'] })
    (h : (Builtin.append_ #[t, t'] o.type #[a.eval s, a.eval x]).run P W = .ok u W1) (hK : Kr (a.put o.dst u) W1) : o.wp P a W Kr Q := by
  refine val_wp ?_ hK
  unfold execOp
  rw [ho]
  simp [resolve, invoke, builtin, h]
theorem app_sound [Inp] {o : Oper} {Kr : Act → World → Prop} {Q : Exit → Act → World → Prop} {s x : Operand} {t t' el : TypeId} {i : TypeInfo} {z : Value} {S : SV}
    (ho : o.op = .call { callee := .builtin .append, args := #[s, x], argTypes := #[t, t'] }) (ht : P.underlying t = some (.slice el)) (hi : P.info? el = some i) (hz : i.zero = some z) (hsz : 0 < i.size) (hzs : z.cells.size = i.size)
    (hst : St base w0 r m W) (hs : S.Is r (a.eval s)) {k1 k2 : Nat} {xs ys : List SV} (h1 : slOf m i.size S = some (k1, xs)) {us : List Value} (hus : SV.IsL r ys us) (hsrc : SrcIs P W t' i.size (a.eval x) k2 us)
    (hg : grows m i.size S) (hlx : xs.length = k1 * i.size) (hly : ys.length = k2 * i.size) (h0 : 0 < k2) (hone : ys.all SV.one = true) (hmax : k1 + k2 ≤ maxLen) (hby : (k1 + k2) * i.bytes ≤ 140737488355328)
    (hK : ∀ t u W1, St base w0 (r ++ t) (kill m S ++ [⟨true, xs ++ ys⟩]) W1 → (SV.row m.length 0 (k1 + k2) i.size).Is (r ++ t) u → Kr (a.put o.dst u) W1) : o.wp P a W Kr Q := by
  have hsmall : k1 + k2 ≤ 9223372036854775807 := by simp only [maxLen] at hmax; omega
  have hlu := IsL_len hus
  have h1c : ∀ v ∈ us, v.oneCell' = true := IsL_one hus hone
  have grow : ∀ (olds : List Value) (cap : Nat), SV.IsL r xs olds → ∀ u W1, u = .slice (some ⟨W.heap.size, 0, none⟩) (k1 + k2) cap → k1 + k2 ≤ cap →
      W1 = W.drew.alloc (.cells ((olds ++ us) ++ (Builtin.zeroCells z.cells (cap - (k1 + k2))).toList).toArray el) →
      St base w0 (r ++ [⟨W.heap.size, 0, cap * i.size⟩]) (kill m S ++ [⟨true, xs ++ ys⟩]) W1 ∧ (SV.row m.length 0 (k1 + k2) i.size).Is (r ++ [⟨W.heap.size, 0, cap * i.size⟩]) u := by
    intro olds cap holds u W1 hu hcap hW1
    have hlo := IsL_len holds
    have hd := hst.drew
    have hbelow : Low base W W1 := by rw [hW1]; exact Low.of_below (((Below.refl _ _).drew).alloc (Nat.le_refl _) _)
    have hsame : Same r W W1 := by rw [hW1]; exact Same.below hst (((Below.refl _ _).drew).alloc (Nat.le_refl _) _)
    have hkill : St base w0 r (kill m S) W := hst.kill S
    have hmul : k1 * i.size + k2 * i.size = (k1 + k2) * i.size := (Nat.add_mul _ _ _).symm
    have hcm : (k1 + k2) * i.size ≤ cap * i.size := Nat.mul_le_mul_right _ hcap
    refine ⟨hkill.add hbelow hsame _ _ (ObjAt.new (T := el) (by rw [hW1]; exact heap_alloc_new _ _) ?_ (by simp; omega) ?_ (hst.from_ _ hst.low.size)) rfl (Nat.le_refl _), ?_⟩
    · simp [size_zeroCells, hzs, hlo, hlu, hlx, hly]
      rw [← Nat.add_assoc, hmul, ← Nat.add_mul]
      apply Nat.mul_le_mul_right
      omega
    · simp only [List.drop_zero]
      rw [List.take_append_of_le_length (by simp [hlo, hlu]), List.take_of_length_le (by simp [hlo, hlu])]
      exact SV.IsL.grow _ (IsL_append holds hus)
    · simp only [SV.Is]
      refine ⟨⟨W.heap.size, 0, cap * i.size⟩, cap, by rw [← hst.len, List.getElem?_append_right (Nat.le_refl _)]; simp, hcap, by simp, ?_⟩
      simpa using hu
  obtain ⟨p1, c1, olds, hsu0, holds0, hlo0, hcell0⟩ := sl_cells hst h1 hs
  have hold : (Builtin.firstCells i.size k1 (.slice p1 k1 c1)).run P W.drew = .ok olds.toArray W.drew := by
    refine firstCells_at (by rw [hlo0, hlx]) ?_
    rcases hcell0 with ⟨a1, rfl, hc⟩ | hn
    · exact .inl ⟨a1, rfl, hc _ (Same.drew_ hst)⟩
    · exact .inr hn
  have grown : c1 < k1 + k2 → o.wp P a W Kr Q := fun hlt => by
    have hr := run_app_grow (P := P) t t' o.type el i z ht hi hz p1 k1 c1 olds hold (a.eval x) k2 us hsrc hlt (by omega) (growslice_fits (by omega) hby)
    have hgc := grownCap_ge W (k1 + k2) c1 el
    obtain ⟨q1, q2⟩ := grow olds (grownCap W (k1 + k2) c1 el) holds0 _ _ rfl hgc rfl
    refine run_append_wp ho ?_ (hK _ _ _ q1 q2)
    rw [hsu0]
    exact hr
  have hg' := hg
  unfold grows at hg'
  split at hg'
  · simp only [SV.Is] at hs
    rw [hsu0] at hs
    injection hs with e1 e2 e3
    exact grown (by omega)
  · rename_i kk so n1 sz
    obtain ⟨rfl, hg'⟩ := hg'
    split at hg'
    · rename_i ob hob
      obtain ⟨⟨hown, hfull⟩, hmm⟩ := hg'
      have hn1 : n1 = k1 := by
        have hh := h1
        simp only [slOf, hob, if_true] at hh
        split at hh
        · injection hh with hh; injection hh
        · cases hh
      subst hn1
      simp only [SV.Is] at hs
      obtain ⟨l, cap, hl, hcap, hroom, hsu⟩ := hs
      by_cases hroom2 : n1 + k2 ≤ cap
      · -- in place
        have hO := hst.obj kk l ob hl hob
        obtain ⟨c, T, fr, g1, g2, g3, g4⟩ := hO.there hmm (.inl hown)
        have g5 := hO.fits
        have := g4 hown
        subst this
        have hmul : n1 * i.size + k2 * i.size = (n1 + k2) * i.size := (Nat.add_mul _ _ _).symm
        have hcm : (n1 + k2) * i.size ≤ cap * i.size := Nat.mul_le_mul_right _ hroom2
        have hfit : l.off + so + n1 * i.size + us.length ≤ c.size := by rw [hlu, hly]; omega
        have hr := run_app_room (P := P) t t' o.type el i ht hi l.blk (l.off + so) n1 cap c T g1 (a.eval x) k2 us (by rw [hlu]; exact hly) hsrc h1c hroom2 hfit
        rw [← hsu] at hr
        generalize hc' : (List.take (l.off + so + n1 * i.size) c.toList ++ us ++ List.drop (l.off + so + n1 * i.size + us.length) c.toList).toArray = c' at hr
        have hsz : c'.size = c.size := by rw [← hc']; simp; omega
        have hadd : St base w0 (r ++ [⟨l.blk, l.off + so, l.room - so⟩]) (m.set kk ⟨false, []⟩ ++ [⟨true, xs ++ ys⟩]) (W.setRow l.blk c') := by
          refine hst.move hl hob hown (low_setRow (hO.own hown) g1 hsz) (fun j _ hj => setRow_other _ _ _ _ hj) rfl ⟨fun _ _ => ⟨c', T, (0, 0), setRow_heap _ _ _ _ _ _ g1, by simp only; omega, ?_, fun _ => rfl⟩, by simp only [List.length_append]; omega, fun _ => hO.own hown, by simpa using hO.lt, trivial⟩ rfl
          · refine SV.IsL.grow _ ?_
            have hlx' : (xs ++ ys).length = n1 * i.size + k2 * i.size := by simp [hlx, hly]
            rw [← hc']
            have hxs : xs = (ob.cells.drop so).take (n1 * i.size) := by
              have hh := h1
              simp only [slOf, hob, if_true] at hh
              rw [if_pos (by omega)] at hh
              injection hh with hh; injection hh with _ hh
              exact hh.symm
            have e1 : ((List.take (l.off + so + n1 * i.size) c.toList ++ us ++ List.drop (l.off + so + n1 * i.size + us.length) c.toList).drop (l.off + so)).take (xs ++ ys).length = ((c.toList.drop (l.off + so)).take (n1 * i.size)) ++ us := by
              rw [hlx']
              apply List.ext_getElem?
              intro j
              simp only [List.getElem?_take, List.getElem?_drop, List.getElem?_append, List.length_append, List.length_take, List.length_drop, Array.length_toList]
              have hus' : us.length = k2 * i.size := by rw [hlu, hly]
              by_cases j1 : j < n1 * i.size
              · repeat (first | rw [if_pos (by omega)] | rw [if_neg (by omega)])
              · by_cases j2 : j < n1 * i.size + k2 * i.size
                · repeat (first | rw [if_pos (by omega)] | rw [if_neg (by omega)])
                  congr 1
                  omega
                · repeat (first | rw [if_pos (by omega)] | rw [if_neg (by omega)])
                  rw [List.getElem?_eq_none (by omega)]
            simp only [List.toList_toArray]
            rw [e1]
            refine IsL_append ?_ hus
            rw [hxs]
            have := IsL_take (n1 * i.size) (IsL_drop so g3)
            rw [List.drop_take, List.drop_drop, List.take_take, Nat.min_eq_left (by omega)] at this
            exact this
        refine run_append_wp ho hr (hK [⟨l.blk, l.off + so, l.room - so⟩] _ _ hadd ?_)
        simp only [SV.Is]
        refine ⟨⟨l.blk, l.off + so, l.room - so⟩, cap, by rw [← hst.len, List.getElem?_append_right (Nat.le_refl _)]; simp, hroom2, by simp only; omega, ?_⟩
        simp [hsu]
      · -- grown
        refine grown ?_
        rw [hsu] at hsu0
        injection hsu0 with e1 e2 e3
        omega
    · exact hg'.elim
  · simp only [SV.Is] at hs
    obtain ⟨ad, hs, _⟩ := hs
    rw [hsu0] at hs
    injection hs with e1 e2 e3
    exact grown (by omega)
  · exact hg'.elim
theorem app_zero [Inp] {o : Oper} {Kr : Act → World → Prop} {Q : Exit → Act → World → Prop} {s x : Operand} {t t' el : TypeId} {i : TypeInfo} {S : SV}
    (ho : o.op = .call { callee := .builtin .append, args := #[s, x], argTypes := #[t, t'] }) (ht : P.underlying t = some (.slice el)) (hi : P.info? el = some i)
    (hst : St base w0 r m W) (hs : S.Is r (a.eval s)) {k1 : Nat} {xs : List SV} (h1 : slOf m i.size S = some (k1, xs)) (hcap : capOk S) {us : List Value} (hu0 : us = []) (hsrc : SrcIs P W t' i.size (a.eval x) 0 us) (hK : Kr (a.put o.dst (a.eval s)) W) : o.wp P a W Kr Q := by
  subst hu0
  have hsv : ∃ p n c, a.eval s = .slice p n c ∧ n ≤ c := by
    unfold slOf at h1
    split at h1
    · simp only [SV.Is] at hs
      obtain ⟨l, cap, hl, hc, hroom, hsu⟩ := hs
      exact ⟨_, _, _, hsu, hc⟩
    · simp only [SV.Is] at hs
      exact ⟨_, _, _, hs, hcap⟩
    · simp only [SV.Is] at hs
      obtain ⟨p, c, hs, _⟩ := hs
      exact ⟨_, _, _, hs, Nat.zero_le _⟩
    · simp only [SV.Is] at hs
      obtain ⟨p, hs, _⟩ := hs
      exact ⟨_, _, _, hs, Nat.zero_le _⟩
    · cases h1
  obtain ⟨p, n1, c1, hsv, hle⟩ := hsv
  obtain ⟨hty, hlen, hnow, hdrawn⟩ := hsrc
  refine run_append_wp ho ?_ hK
  rw [hsv]
  rcases hty with ⟨e, he⟩ | he <;> cases p <;> simp [Builtin.append_, run_underlying ht, run_underlying he, sizeOf, typeInfo, hi, hlen, hle, hnow, storeCells]
theorem upd_sound [Inp] {G : List CEntry} {o : Oper} {xb : XB} {K : SV → Mem → Prop} {t : TypeId} {x i y : Operand} {Kr : Act → World → Prop} {Q : Exit → Act → World → Prop}
    (hK : ∀ s m' t u W1, K s m' → St base w0 (r ++ t) m' W1 → s.Is (r ++ t) u → (quiet G e xb = true → Same r W W1) → Kr (a.put o.dst u) W1) (hst : St base w0 r m W) (he : EnvIs n r e a.tmps)
    (hc : (match P.underlying t with | some (.map kt _) => (ktOf P kt).map fun k => XB.mapUpd k (XO.of x) (XO.of i) (XO.of y) | _ => none) = some xb) (h : evB G xb e m K)
    (hrun : ∀ W1, (Instr.mapUpdate t (a.eval x) (a.eval i) (a.eval y)).run P W = .ok () W1 → (execOp a.eval o).run P W = .ok .skip W1) : o.wp P a W Kr Q := by
  have hg := he.get
  split at hc
  · rename_i kt et hu
    obtain ⟨k, hk, hc⟩ := Option.map_eq_some_iff.1 hc
    subst hc
    simp only [evB, evUpd] at h
    have hx := hg x
    have hi := hg i
    have hun := ktOf_ok hk
    split at h
    · rename_i kx key hxx hii
      rw [hxx] at hx; rw [hii] at hi
      simp only [SV.Is] at hx hi
      obtain ⟨l, hl, hxv⟩ := hx
      split at h
      · rename_i kt' ps hany
        obtain ⟨⟨hkt, hK1⟩, h⟩ := h
        subst hkt
        have hik := isK_ok hK1
        obtain ⟨ob, es, hob, hown, hb, hmi, hr0⟩ := anyAt_ok hst hl hany
        have hlen := hmi.len
        rcases upd_ok (r := r) hik (hg y) hmi with ⟨f1, f2, f3, f4, f5⟩ | ⟨q, en, s2, f1, f2, f3, f4, f5, f6, f7⟩
        · have hm2 : MapIs r kt'.desc 0 (putM key (XO.get e (XO.of y)) ps) (es.push ⟨key, a.eval y, ps.length⟩).toList := by
            rw [← hlen]; simpa using f3
          have hSt := hst.setMap hl hob hown hb hr0 hm2
          rw [f5] at hSt
          refine skip_wp (W1 := { W with heap := W.heap.setIfInBounds l.blk (.map (es.push ⟨key, a.eval y, ps.length⟩) (ps.length + 1)) }) (hrun _ ?_) (hK _ _ [] _ _ h (by simpa using hSt) (by simp only [SV.Is]; exact ⟨[], rfl, by simp [SV.IsL]⟩) (by simp [quiet]))
          rw [hxv, hi]
          simp [Instr.mapUpdate, run_underlying hu, Go.MapKept.run_getObj_map hb, Go.MapKept.run_checkKey hun hik, Go.MapKept.run_findKey hun f2, Go.MapKept.run_setObj_map _ hb]
        · simp only [Nat.zero_add] at f1 f2
          have hjj : es[q]? = some en := by simpa using f3
          have hm2 : MapIs r kt'.desc 0 (putM key (XO.get e (XO.of y)) ps) (es.modify q fun e => { e with key := key, val := a.eval y }).toList := by
            rw [Array.toList_modify]; exact f6
          have hSt := hst.setMap hl hob hown hb hr0 hm2
          rw [f7] at hSt
          refine skip_wp (W1 := { W with heap := W.heap.setIfInBounds l.blk (.map (es.modify q fun e => { e with key := key, val := a.eval y }) ps.length) }) (hrun _ ?_) (hK _ _ [] _ _ h (by simpa using hSt) (by simp only [SV.Is]; exact ⟨[], rfl, by simp [SV.IsL]⟩) (by simp [quiet]))
          rw [hxv, hi]
          simp [Instr.mapUpdate, run_underlying hu, Go.MapKept.run_getObj_map hb, Go.MapKept.run_checkKey hun hik, Go.MapKept.run_findKey hun f2, hjj, f4, Go.MapKept.run_keyThatStays hik, Go.MapKept.run_setObj_map _ hb]
      · exact h.elim
    · exact h.elim
  · cases hc
/-- What an operation comes to. -/
theorem compB_sound [Inp] {G : List CEntry} (hG : GOk P G) {o : Oper} {xb : XB} {K : SV → Mem → Prop} (hc : compB P o.op = some xb) (h : evB G xb e m K) (hst : St base w0 r m W) (he : EnvIs n r e a.tmps)
    {Kr : Act → World → Prop} {Q : Exit → Act → World → Prop} (hK : ∀ s m' t u W1, K s m' → St base w0 (r ++ t) m' W1 → s.Is (r ++ t) u → (quiet G e xb = true → Same r W W1) → Kr (a.put o.dst u) W1) : o.wp P a W Kr Q := by
  have hg := he.get
  unfold compB at hc
  split at hc
  · rename_i xa hxa
    injection hc with hc; subst hc
    simp only [evB] at h
    obtain ⟨s, u, h1, h2, h3⟩ := compA_sound hxa h hst he
    exact val_wp (h3 W fun _ => Same.refl _ _) (hK s m [] u W h1 (by simpa using hst) (by simpa using h2) fun _ => Same.refl _ _)
  rename_i hA
  obtain ⟨dst, op, type, pos, after, guard⟩ := o
  dsimp only at hc hA hK ⊢
  split at hc
  case h_1 t x =>
    injection hc with hc; subst hc
    simp only [evB] at h
    split at h
    · rename_i cs hcs
      have hus := cells_is hcs (hg x)
      obtain ⟨h1, h2⟩ := hst.new hus t
      refine val_wp (o := ⟨dst, .box t x, type, pos, after, guard⟩) (W1 := W.alloc (.cells (a.eval x).cells t)) (u := .pointer (some ⟨W.heap.size, 0, none⟩)) ?_ (hK _ _ _ _ _ h h1 ?_ fun _ => h2)
      · simp [execOp, Instr.box, newVar, newRow]
      · simp only [SV.Is]
        exact ⟨⟨W.heap.size, 0, _⟩, by rw [← hst.len, List.getElem?_append_right (Nat.le_refl _)]; simp; rfl, by simp⟩
    · exact h.elim
  case h_2 t parts =>
    obtain ⟨i, hi, hc⟩ := Option.bind_eq_some_iff.1 hc
    obtain ⟨z, hz, hc⟩ := Option.bind_eq_some_iff.1 hc
    split at hc
    · rename_i fs hu
      split at hc
      · rename_i hall
        obtain ⟨xs, hxs, hc⟩ := Option.map_eq_some_iff.1 hc
        subst hc
        simp only [evB] at h
        split at h
        · rename_i cs hcs
          obtain ⟨us, hf, hus⟩ := compParts_is (e := e) (ev := a.eval) hg hxs (svCells_is z) hcs
          refine val_wp (o := ⟨dst, .build t parts, type, pos, after, guard⟩) (W1 := W) (u := .agg us) ?_ (hK _ m [] _ W h (by simpa using hst) ?_ fun _ => Same.refl _ _)
          · have hpl := run_places (P := P) hall W
            have hpl' : (fs.mapM fun f => (do pure (f.offset, ← sizeOf f.type) : Sem (Nat × Nat))).run P W = .ok (fs.map fun f => (f.offset, ((P.info? f.type).map (·.size)).getD 0)) W := by
              rw [Array.mapM_eq_mapM_toList]
              simp only [map_eq_pure_bind, Sem.run_bind, hpl, Result.andThen_ok, Sem.run_pure]
              congr 1
              apply Array.ext'
              simp
            have hfe : (fun j => ((fs.map fun f => (f.offset, ((P.info? f.type).map (·.size)).getD 0))[j]? : Option (Nat × Nat))) = fun (i : Nat) => (fs[i]?).bind fun (f : Field) => (P.info? f.type).map fun j => (f.offset, j.size) := by
              funext j
              rw [Array.getElem?_map]
              cases hj : fs[j]? with
              | none => rfl
              | some f =>
                simp only [Option.map_some, Option.bind_some]
                have : f ∈ fs.toList := by
                  rw [Array.getElem?_eq_some_iff] at hj
                  obtain ⟨_, rfl⟩ := hj
                  simp
                have hs := List.all_eq_true.1 hall f this
                obtain ⟨y, hy⟩ := Option.isSome_iff_exists.1 hs
                simp [hy]
            rw [← hfe] at hf
            simp only [execOp, Instr.build, zeroValue, typeInfo, Sem.run_bind, run_program, hi, Result.andThen_ok, Sem.run_pure, hz, run_underlying hu, hpl']
            rw [show (parts.map fun x => (x.1, a.eval x.2)).toList = parts.toList.map fun p => (p.1, a.eval p.2) by simp]
            rw [hf]
            simp
          · simp only [SV.Is]
            exact ⟨us.toList, by simp, by simpa using hus⟩
        · exact h.elim
      · cases hc
    · rename_i n1 el hu
      obtain ⟨j, hj, hc⟩ := Option.bind_eq_some_iff.1 hc
      obtain ⟨xs, hxs, hc⟩ := Option.map_eq_some_iff.1 hc
      subst hc
      simp only [evB] at h
      split at h
      · rename_i cs hcs
        obtain ⟨us, hf, hus⟩ := compParts_is (e := e) (ev := a.eval) hg hxs (svCells_is z) hcs
        refine val_wp (o := ⟨dst, .build t parts, type, pos, after, guard⟩) (W1 := W) (u := .agg us) ?_ (hK _ m [] _ W h (by simpa using hst) ?_ fun _ => Same.refl _ _)
        · simp only [execOp, Instr.build, zeroValue, typeInfo, Sem.run_bind, run_program, hi, Result.andThen_ok, Sem.run_pure, hz, run_underlying hu, sizeOf, hj]
          rw [show (parts.map fun x => (x.1, a.eval x.2)).toList = parts.toList.map fun p => (p.1, a.eval p.2) by simp]
          rw [hf]
          simp
        · simp only [SV.Is]
          exact ⟨us.toList, by simp, by simpa using hus⟩
      · exact h.elim
    · cases hc
  case h_3 t len parts =>
    split at hc
    · rename_i el hu
      obtain ⟨j, hj, hc⟩ := Option.bind_eq_some_iff.1 hc
      obtain ⟨z, hz, hc⟩ := Option.bind_eq_some_iff.1 hc
      split at hc
      · rename_i hlim
        obtain ⟨xs, hxs, hc⟩ := Option.map_eq_some_iff.1 hc
        subst hc
        simp only [evB] at h
        split at h
        · rename_i cs hcs
          have hzero : SV.IsL r ((List.range (len * j.size)).map fun i => SV.v (z.cells[i % z.cells.size]!)) (((Array.range (len * j.size)).map fun i => z.cells[i % z.cells.size]!).toList) := by
            have := IsL_v (r := r) ((List.range (len * j.size)).map fun i => z.cells[i % z.cells.size]!)
            simpa [List.map_map, Function.comp_def] using this
          obtain ⟨us, hf, hus⟩ := compParts_is (e := e) (ev := a.eval) hg hxs hzero hcs
          obtain ⟨h1, h2⟩ := hst.new hus el
          have hsz : us.size = len * j.size := by
            have e1 := IsL_len hus
            have e2 : cs.length = len * j.size := by
              have key : ∀ (ps : List (Nat × Nat × SV)) (l cs : List SV), fillS l ps = some cs → cs.length = l.length := by
                intro ps
                induction ps with
                | nil => intro l cs h; simp only [fillS] at h; injection h with h; rw [h]
                | cons p ps ih =>
                  obtain ⟨o1, z1, s1⟩ := p
                  intro l cs h
                  simp only [fillS] at h
                  split at h
                  · split at h
                    · rename_i c1 _ hcond
                      rw [ih _ _ h, over_len (by omega)]
                    · cases h
                  · cases h
              have := key _ _ _ hcs
              simpa using this
            rw [← e2, ← e1]; simp
          refine val_wp (o := ⟨dst, .buildSlice t len parts, type, pos, after, guard⟩) (W1 := W.alloc (.cells us el)) (u := .slice (some ⟨W.heap.size, 0, none⟩) len len) ?_ (hK _ _ [⟨W.heap.size, 0, us.size⟩] _ _ h (by simpa using h1) ?_ fun _ => by simpa using h2)
          · have hlim' : ¬ (len * j.size > 2 ^ 24) := by omega
            simp only [execOp, Instr.buildSlice, Sem.run_bind, run_underlying hu, Result.andThen_ok, sizeOf, typeInfo, run_program, hj, Sem.run_pure, if_neg hlim', zeroValue, hz]
            by_cases h0 : len * j.size = 0
            · simp only [h0, if_true, Sem.run_pure, Sem.run_bind, Result.andThen_ok]
              rw [show (parts.map fun x => (x.1, a.eval x.2)).toList = parts.toList.map fun p => (p.1, a.eval p.2) by simp]
              rw [h0] at hf
              have e0 : ((Array.range 0).map fun x => (#[] : Array Value)[x % (#[] : Array Value).size]!) = (Array.range 0).map fun i => z.cells[i % z.cells.size]! := by simp
              rw [e0, hf]
              simp [newRow]
            · simp only [h0, if_false, Sem.run_pure, Sem.run_bind, Result.andThen_ok, typeInfo, run_program, hj, hz]
              rw [show (parts.map fun x => (x.1, a.eval x.2)).toList = parts.toList.map fun p => (p.1, a.eval p.2) by simp]
              rw [hf]
              simp [newRow]
          · simp only [SV.Is]
            exact ⟨⟨W.heap.size, 0, us.size⟩, len, by rw [← hst.len, List.getElem?_append_right (Nat.le_refl _)]; simp, Nat.le_refl _, by simp [hsz], by simp⟩
        · exact h.elim
      · cases hc
    · cases hc
  case h_4 t =>
    obtain ⟨i, hi, hc⟩ := Option.bind_eq_some_iff.1 hc
    obtain ⟨z, hz, hc⟩ := Option.map_eq_some_iff.1 hc
    subst hc
    simp only [evB] at h
    obtain ⟨h1, h2⟩ := hst.new (svCells_is z) t
    refine val_wp (o := ⟨dst, .alloc t, type, pos, after, guard⟩) (W1 := W.alloc (.cells z.cells t)) (u := .pointer (some ⟨W.heap.size, 0, none⟩)) ?_ (hK _ _ _ _ _ h (by simpa using h1) ?_ fun _ => by simpa using h2)
    · simp [execOp, Instr.alloc, newVar, newRow, zeroValue, typeInfo, hi, hz]
    · simp only [SV.Is]
      exact ⟨_, by rw [← hst.len, List.getElem?_append_right (Nat.le_refl _)]; simp; rfl, by simp⟩
  case h_5 t x y =>
    obtain ⟨i, hi, hc⟩ := Option.map_eq_some_iff.1 hc
    subst hc
    simp only [evB] at h
    have hx := hg x
    split at h
    · rename_i k o cs hxx hcs
      rw [hxx] at hx
      simp only [SV.Is] at hx
      obtain ⟨l, hl, hu⟩ := hx
      have hus := cells_is hcs (hg y)
      split at h
      · rename_i ob hob
        obtain ⟨⟨hown, hlen, hfit, hone, hmm⟩, h⟩ := h
        have hO := hst.obj k l ob hl hob
        obtain ⟨c, T, fr, g1, g2, g3, g4⟩ := hO.there hmm (.inl hown)
        have g5 := hO.fits
        have := g4 hown
        subst this
        have hsl := IsL_len hus
        simp only [Array.length_toList] at hsl
        have h1c := IsL_one hus hone
        have hfit2 : l.off + o + 0 + (a.eval y).cells.toList.length ≤ c.size := by simp only [Array.length_toList]; omega
        have hrun := run_storeCells_at P l.blk (l.off + o) T (a.eval y).cells.toList 0 c W g1 hfit2 h1c
        simp only [Nat.add_zero] at hrun
        generalize hc' : (List.take (l.off + o) c.toList ++ (a.eval y).cells.toList ++ List.drop (l.off + o + (a.eval y).cells.toList.length) c.toList).toArray = c' at hrun
        have hsz : c'.size = c.size := by rw [← hc']; simp; omega
        have hW1 := hst.put hl hob hown g1 c' hsz ⟨true, over ob.cells o cs⟩ (hO.put hown g1 g2 hsz (by rw [over_len (by omega)]; exact g5) ?_)
        · refine skip_wp (o := ⟨dst, .store t x y, type, pos, after, guard⟩) (W1 := W.setRow l.blk c') ?_ (hK _ _ [] _ _ h (by simpa using hW1) (by simp only [SV.Is]; exact ⟨[], rfl, by simp [SV.IsL]⟩) (by simp [quiet]))
          simp only [execOp, Instr.storeAt, hu, Instr.sureAddr, Sem.run_bind, Sem.run_pure, Result.andThen_ok, storeVar, sizeOf, typeInfo, run_program, hi]
          rw [if_neg (by omega)]
          simp only [Sem.run_bind, Sem.run_pure, Result.andThen_ok, hrun]
        · rw [over_len (by omega), ← hc']
          simp only [List.toList_toArray]
          rw [real_over _ _ _ _ _ (by simp only [Array.length_toList]; omega) (by simp only [Array.length_toList]; omega)]
          exact IsL_over _ g3 hus
      · exact h.elim
    · exact h.elim
  case h_6 f args argTypes =>
    injection hc with hc; subst hc
    simp only [evB] at h
    have hf := hg f
    have body : ∀ (fid : FuncId) (L : List SV) (vs : List Value) (c : CEntry), look fid G = some c → c.tr L m K → SV.IsL r L vs → (c.q = quiet G e (XB.call (XO.of f) (args.toList.map XO.of))) →
        (execOp a.eval ⟨dst, .call { callee := .value f, args := args, argTypes := argTypes }, type, pos, after, guard⟩).run P W = (callFunc fid vs.toArray).run P W →
        (⟨dst, .call { callee := .value f, args := args, argTypes := argTypes }, type, pos, after, guard⟩ : Oper).wp P a W Kr Q := by
      intro fid L vs c hlook ht hargs hqe hexec
      rcases look_ok hG hlook with ⟨⟨fn, hfn, hname, hbody⟩, hcalls⟩ | hruns
      · have hcall := hcalls _ m _ base w0 W r _ ht hst hargs
        unfold Oper.wp
        have hrun : (execOp a.eval ⟨dst, .call { callee := .value f, args := args, argTypes := argTypes }, type, pos, after, guard⟩).run P W = .ok (.enter fid vs.toArray) W := by
          have hb : fn.body ≠ none := by intro hb; simp [hb] at hbody
          have hname' : ¬ fn.name = "runtime.NumGoroutine" := by simpa using hname
          rw [hexec]
          simp [callFunc, hfn, hname', hb]
        rw [hrun]
        simp only [Oper.upon]
        refine hcall.mono ?_
        rintro en W1 ⟨s, m', t, u, hk, rfl, hst1, hs1, hq⟩
        exact hK s m' t u W1 hk hst1 hs1 (fun hqq => hq (by rw [hqe]; exact hqq))
      · obtain ⟨s, m', t, u, W1, hk, hrun, hst1, hs1, hq⟩ := hruns.runs _ m _ base w0 W r _ ht hst hargs
        exact val_wp (by rw [hexec]; exact hrun) (hK s m' t u W1 hk hst1 hs1 (fun hqq => hq (by rw [hqe]; exact hqq)))
    have harg : SV.IsL r ((args.toList.map XO.of).map (XO.get e)) (args.map a.eval).toList := by
      rw [List.map_map, Array.toList_map]
      exact ev_list hg _
    split at h
    · rename_i fid cap hfx
      rw [hfx] at hf
      simp only [SV.Is] at hf
      obtain ⟨us, hfu, hus⟩ := hf
      split at h
      · rename_i c hlook
        refine body fid _ _ c hlook h (IsL_append harg hus) (by simp [quiet, hfx, hlook]) ?_
        have e2 : ((args.map a.eval).toList ++ us).toArray = args.map a.eval ++ us.toArray := by apply Array.ext'; simp
        rw [e2]
        simp [execOp, resolve, hfu, Deferred.ofValue, invoke]
      · exact h.elim
    · rename_i fid fst hfx
      rw [hfx] at hf
      simp only [SV.Is] at hf
      obtain ⟨us, hfu, hus⟩ := hf
      split at h
      · rename_i c hlook
        refine body fid _ _ c hlook h (IsL_append hus harg) (by simp [quiet, hfx, hlook]) ?_
        have e2 : (us ++ (args.map a.eval).toList).toArray = us.toArray ++ args.map a.eval := by apply Array.ext'; simp
        rw [e2]
        simp [execOp, resolve, hfu, Deferred.ofValue, invoke]
      · exact h.elim
    · exact h.elim
  case h_7 args argTypes =>
    split at hc
    · rename_i s x t t' hax hat
      obtain rfl : args = #[s, x] := by cases args; simp_all
      obtain rfl : argTypes = #[t, t'] := by cases argTypes; simp_all
      split at hc
      · rename_i el hu
        have slices : (∃ e2, P.underlying t' = some (.slice e2)) → ((P.info? el).bind fun i => i.zero.bind fun z => if 0 < i.size ∧ z.cells.size = i.size then some (XB.app i.size i.bytes (XO.of s) (XO.of x)) else none) = some xb → (⟨dst, .call { callee := .builtin .append, args := #[s, x], argTypes := #[t, t'] }, type, pos, after, guard⟩ : Oper).wp P a W Kr Q := by
          rintro ⟨e2, hu2⟩ hc
          obtain ⟨i, hi, hc⟩ := Option.bind_eq_some_iff.1 hc
          obtain ⟨z, hz, hc⟩ := Option.bind_eq_some_iff.1 hc
          split at hc
          · rename_i hcond
            injection hc with hc; subst hc
            simp only [evB] at h
            split at h
            · rename_i k1 xs k2 ys hs1 hs2
              split at h
              · rename_i hk0
                subst hk0
                have hys : ys.length = 0 * i.size := by
                  unfold slOf at hs2
                  split at hs2
                  · split at hs2
                    · split at hs2
                      · split at hs2
                        · injection hs2 with hs2; injection hs2 with q1 q2
                          rw [← q2, q1]; simp
                        · cases hs2
                      · cases hs2
                    · cases hs2
                  · obtain ⟨us2, hus2, hs2⟩ := Option.map_eq_some_iff.1 hs2
                    injection hs2 with q1 q2
                    rw [← q2]; simp [(inpL_some hus2).1, q1]
                  · injection hs2 with hs2; injection hs2 with q1 q2
                    rw [← q2]; simp
                  · injection hs2 with hs2; injection hs2 with q1 q2
                    rw [← q2]; simp
                  · cases hs2
                obtain ⟨us, hus, hsrc, _⟩ := src_of_sl (P := P) hst hu2 hs2 (hg x) hys
                have hnil : us = [] := by
                  have := IsL_len hus
                  rw [hys] at this
                  exact List.length_eq_zero_iff.1 (by omega)
                exact app_zero (o := ⟨dst, .call { callee := .builtin .append, args := #[s, x], argTypes := #[t, t'] }, type, pos, after, guard⟩) rfl hu hi hst (hg s) hs1 h.1 hnil hsrc
                  (hK _ _ [] _ _ h.2 (by simpa using hst) (by simpa using hg s) (by simp [quiet]))
              obtain ⟨⟨q1, q2, q3, q4, q5, q6, q7⟩, h⟩ := h
              obtain ⟨us, hus, hsrc, _⟩ := src_of_sl (P := P) hst hu2 hs2 (hg x) q3
              exact app_sound (o := ⟨dst, .call { callee := .builtin .append, args := #[s, x], argTypes := #[t, t'] }, type, pos, after, guard⟩) rfl hu hi hz hcond.1 hcond.2 hst (hg s) hs1 hus hsrc q1 q2 q3 q4 q5 q6 q7
                (fun t u W1 g1 g2 => hK _ _ t u W1 h g1 g2 (by simp [quiet]))
            · exact h.elim
          · cases hc
        split at hc
        · rename_i htt
          exact slices ⟨el, by rw [← htt]; exact hu⟩ hc
        · split at hc
          · rename_i hu2
            obtain ⟨i, hi, hc⟩ := Option.bind_eq_some_iff.1 hc
            obtain ⟨z, hz, hc⟩ := Option.bind_eq_some_iff.1 hc
            split at hc
            · rename_i hcond
              injection hc with hc; subst hc
              simp only [evB] at h
              split at h
              · rename_i k1 xs str hs1 hxs
                have hx := hg x
                rw [hxs] at hx; simp only [SV.Is] at hx
                have hsrc := src_of_str (P := P) (W := W) str hu2
                rw [← hx, ← hcond.1] at hsrc
                rw [← hcond.1] at hs1
                split at h
                · rename_i hk0
                  rw [hk0] at hsrc
                  exact app_zero (o := ⟨dst, .call { callee := .builtin .append, args := #[s, x], argTypes := #[t, t'] }, type, pos, after, guard⟩) rfl hu hi hst (hg s) hs1 h.1 (by
                    have : str.data.toList.length = 0 := by simpa using hk0
                    rw [List.length_eq_zero_iff.1 this]; rfl) hsrc
                    (hK _ _ [] _ _ h.2 (by simpa using hst) (by simpa using hg s) (by simp [quiet]))
                · rename_i hk0
                  obtain ⟨⟨q1, q2, q3, q4⟩, h⟩ := h
                  rw [← hcond.1] at q1
                  refine app_sound (o := ⟨dst, .call { callee := .builtin .append, args := #[s, x], argTypes := #[t, t'] }, type, pos, after, guard⟩) rfl hu hi hz (by omega) hcond.2 hst (hg s) hs1 (bytesC_is str) hsrc q1 (by rw [hcond.1]; omega) (by rw [hcond.1, bytesC_len]; omega) (by omega) (bytesC_one str) q3 q4 ?_
                  intro t u W1 g1 g2
                  rw [hcond.1] at g2
                  exact hK _ _ t u W1 h g1 g2 (by simp [quiet])
              · exact h.elim
            · cases hc
          · rename_i e2 hu2
            exact slices ⟨e2, hu2⟩ hc
          · cases hc
      · cases hc
    · cases hc
  case h_8 args argTypes =>
    split at hc
    · rename_i d x t t' hax hat
      obtain rfl : args = #[d, x] := by cases args; simp_all
      obtain rfl : argTypes = #[t, t'] := by cases argTypes; simp_all
      split at hc
      · rename_i el hu
        obtain ⟨i, hi, hc⟩ := Option.map_eq_some_iff.1 hc
        subst hc
        simp only [evB] at h
        split at h
        · rename_i k o n1 s1 k2 ys hd hsx
          have hd1 := hg d
          rw [hd] at hd1; simp only [SV.Is] at hd1
          obtain ⟨l, cap, hl, hcap, hroom, hdu⟩ := hd1
          split at h
          · rename_i ob hob
            obtain ⟨⟨hs1, hown, hfit, hyl, hone, hmm⟩, h⟩ := h
            subst hs1
            obtain ⟨p, cx, us, hxu, hus, hlu, hcell⟩ := sl_cells hst hsx (hg x)
            have hO := hst.obj k l ob hl hob
            obtain ⟨c, T, fr, g1, g2, g3, g4⟩ := hO.there hmm (.inl hown)
            have g5 := hO.fits
            have := g4 hown
            subst this
            have hmin : min k2 n1 * i.size ≤ us.length := by rw [hlu, hyl]; exact Nat.mul_le_mul_right _ (Nat.min_le_left _ _)
            have hmin2 : min k2 n1 * i.size ≤ n1 * i.size := Nat.mul_le_mul_right _ (Nat.min_le_right _ _)
            have hcs : (Builtin.firstCells i.size (min k2 n1) (.slice p k2 cx)).run P W = .ok (us.take (min k2 n1 * i.size)).toArray W := by
              rcases hcell with ⟨a1, rfl, hc1⟩ | ⟨rfl, rfl⟩
              · exact run_firstCells_some (P := P) W i.size (min k2 n1) a1 k2 cx _ (by simp; omega) (take_at (hc1 W (Same.refl _ _)))
              · simp [Builtin.firstCells]
            have h1c := IsL_one hus hone
            have htk : (us.take (min k2 n1 * i.size)).length = min k2 n1 * i.size := by simp; omega
            have hfit2 : l.off + o + 0 + (us.take (min k2 n1 * i.size)).length ≤ c.size := by rw [htk]; omega
            have hrun := run_storeCells_at P l.blk (l.off + o) T (us.take (min k2 n1 * i.size)) 0 c W g1 hfit2 (fun v hv => h1c v (List.mem_of_mem_take hv))
            simp only [Nat.add_zero] at hrun
            generalize hc' : (List.take (l.off + o) c.toList ++ us.take (min k2 n1 * i.size) ++ List.drop (l.off + o + (us.take (min k2 n1 * i.size)).length) c.toList).toArray = c' at hrun
            have hsz : c'.size = c.size := by rw [← hc']; simp only [List.size_toArray, List.length_append, List.length_take, List.length_drop, Array.length_toList]; omega
            have hty : SV.IsL r (ys.take (min k2 n1 * i.size)) (us.take (min k2 n1 * i.size)) := IsL_take _ hus
            have hyl2 : (ys.take (min k2 n1 * i.size)).length = min k2 n1 * i.size := by rw [List.length_take]; omega
            have hW1 := hst.put hl hob hown g1 c' hsz ⟨true, over ob.cells o (ys.take (min k2 n1 * i.size))⟩ (hO.put hown g1 g2 hsz (by rw [over_len (by omega)]; exact g5) ?_)
            · refine val_wp (o := ⟨dst, .call { callee := .builtin .copy, args := #[d, x], argTypes := #[t, t'] }, type, pos, after, guard⟩) (W1 := W.setRow l.blk c') (u := .int .i64 (min k2 n1 : Nat)) ?_ (hK _ _ [] _ _ h (by simpa using hW1) (by simp only [SV.Is]) (by simp [quiet]))
              have hmm : Nat.min k2 n1 = min k2 n1 := rfl
              simp [execOp, resolve, invoke, builtin, Builtin.copy_, hdu, hxu, run_underlying hu, Builtin.lenOf, sizeOf, typeInfo, hi, hmm, hcs, hrun, goInt]
            · rw [over_len (by omega), ← hc']
              simp only [List.toList_toArray]
              rw [real_over _ _ _ _ _ (by simp only [Array.length_toList]; omega) (by omega)]
              exact IsL_over _ g3 hty
          · exact h.elim
        · exact h.elim
      · cases hc
    · cases hc
  case h_9 t x y =>
    split at hc
    · rename_i el hu
      obtain ⟨i, hi, hc⟩ := Option.bind_eq_some_iff.1 hc
      obtain ⟨z, hz, hc⟩ := Option.bind_eq_some_iff.1 hc
      split at hc
      · rename_i hzs
        injection hc with hc; subst hc
        simp only [evB] at h
        split at h
        · rename_i k1 n1 k2 q1 hx hy
          have hx1 := hg x
          have hy1 := hg y
          rw [hx] at hx1; rw [hy] at hy1
          simp only [SV.Is] at hx1 hy1
          obtain ⟨⟨a1, a2, a3, a4⟩, h⟩ := h
          have hrun := run_make (P := P) W t el i z hu hi hz k1 k2 n1 q1 a1 a2 a3 a4
          have hb : Below W.heap.size W (W.alloc (.cells (madeCells z.cells (q1.toNat * i.size)) el)) := (Below.refl _ _).alloc (Nat.le_refl _) _
          have hle : n1.toNat * i.size ≤ q1.toNat * i.size := Nat.mul_le_mul_right _ (by omega)
          have hzl : (svCells z).length = i.size := by simp [svCells, hzs]
          have hfl : ∀ k, ((List.replicate k (svCells z)).flatten).length = k * i.size := fun k => by simp [hzl]
          have hcells : ∀ k, k * i.size ≤ q1.toNat * i.size → SV.IsL (r ++ [⟨W.heap.size, 0, q1.toNat * i.size⟩]) ((List.replicate k (svCells z)).flatten) ((madeCells z.cells (q1.toNat * i.size)).toList.take (k * i.size)) := by
            intro k hk
            refine IsL_of (by rw [List.length_take, Array.length_toList, size_madeCells, hfl]; exact Nat.min_eq_left hk) fun j c v hc hv => ?_
            have hjk : j < k * i.size := by
              have := (List.getElem?_eq_some_iff.1 hc).1
              rw [hfl] at this; exact this
            rw [List.getElem?_take, if_pos hjk] at hv
            have hi0 : 0 < i.size := by
              rcases Nat.eq_zero_or_pos i.size with h0 | h0
              · rw [h0] at hjk; omega
              · exact h0
            have hlt : j % i.size < z.cells.size := by rw [hzs]; exact Nat.mod_lt _ hi0
            have hv' : v = z.cells[j % i.size] := by
              simp only [madeCells, hzs] at hv
              rw [Array.getElem?_toList, Array.getElem?_map, Array.getElem?_range, if_pos (by omega)] at hv
              simp only [Option.map_some, Option.some.injEq] at hv
              rw [← hv, getElem!_pos z.cells _ hlt]
            have hget : ∀ (k : Nat) (j : Nat), j < k * i.size → ((List.replicate k (svCells z)).flatten)[j]? = (svCells z)[j % i.size]? := by
              intro k
              induction k with
              | zero => intro j hj; omega
              | succ k ih =>
                intro j hj
                rw [List.replicate_succ, List.flatten_cons]
                by_cases hj2 : j < i.size
                · rw [List.getElem?_append_left (by omega), Nat.mod_eq_of_lt hj2]
                · rw [List.getElem?_append_right (by omega), hzl, ih (j - i.size) (by rw [Nat.add_mul] at hj; omega)]
                  rw [← Nat.mod_eq_sub_mod (by omega)]
            rw [hget k j hjk] at hc
            have hc' : c = .v (z.cells[j % i.size]) := by
              simp only [svCells, List.getElem?_map, Array.getElem?_toList] at hc
              rw [Array.getElem?_eq_getElem hlt] at hc
              simp only [Option.map_some, Option.some.injEq] at hc
              exact hc.symm
            rw [hc', hv']
            simp only [SV.Is]
          have hSt : St base w0 (r ++ [⟨W.heap.size, 0, q1.toNat * i.size⟩]) (m ++ [⟨true, (List.replicate n1.toNat (svCells z)).flatten⟩]) (W.alloc (.cells (madeCells z.cells (q1.toNat * i.size)) el)) := by
            refine hst.add (Low.of_below hb) (Same.below hst hb) _ _ (ObjAt.new (T := el) (heap_alloc_new _ _) (by simp [size_madeCells]) (by rw [hfl]; exact hle) ?_ (hst.from_ _ hst.low.size)) rfl (Nat.le_refl _)
            simp only [List.drop_zero]
            rw [hfl]
            exact hcells _ hle
          refine val_wp (o := ⟨dst, .makeSlice t x y, type, pos, after, guard⟩) (W1 := W.alloc (.cells (madeCells z.cells (q1.toNat * i.size)) el)) (u := .slice (some ⟨W.heap.size, 0, none⟩) n1.toNat q1.toNat) ?_ (hK _ _ [⟨W.heap.size, 0, q1.toNat * i.size⟩] _ _ h hSt ?_ fun _ => Same.below hst hb)
          · simp [execOp, hx1, hy1, hrun]
          · simp only [SV.Is]
            exact ⟨⟨W.heap.size, 0, q1.toNat * i.size⟩, q1.toNat, by rw [← hst.len, List.getElem?_append_right (Nat.le_refl _)]; simp, by omega, by simp, by simp⟩
        · exact h.elim
      · cases hc
    · cases hc
  case h_10 t rr =>
    split at hc
    · rename_i kt et hu
      split at hc
      · obtain ⟨k, hk, hc⟩ := Option.map_eq_some_iff.1 hc
        subst hc
        simp only [evB] at h
        obtain ⟨q1, q2⟩ := hst.newMap k
        refine val_wp (o := ⟨dst, .makeMap t none, type, pos, after, guard⟩) (W1 := W.alloc (.map #[] 0)) (u := .map (some W.heap.size)) ?_ (hK _ _ _ _ _ h q1 ?_ fun _ => q2)
        · simp [execOp, Instr.makeMap]
        · simp only [SV.Is]
          exact ⟨⟨W.heap.size, 0, 0⟩, by rw [← hst.len, List.getElem?_append_right (Nat.le_refl _)]; simp, rfl⟩
      · rename_i kk nn
        obtain ⟨k, hk, hc⟩ := Option.map_eq_some_iff.1 hc
        subst hc
        simp only [evB] at h
        obtain ⟨q1, q2⟩ := hst.newMap k
        refine val_wp (o := ⟨dst, .makeMap t (some (.const (.int kk nn))), type, pos, after, guard⟩) (W1 := W.alloc (.map #[] 0)) (u := .map (some W.heap.size)) ?_ (hK _ _ _ _ _ h q1 ?_ fun _ => q2)
        · simp [execOp, Instr.makeMap, run_underlying hu, asInt, asIntOf, Act.eval]
        · simp only [SV.Is]
          exact ⟨⟨W.heap.size, 0, 0⟩, by rw [← hst.len, List.getElem?_append_right (Nat.le_refl _)]; simp, rfl⟩
      · cases hc
    · cases hc
  case h_11 t x i y =>
    exact upd_sound hK hst he hc h (fun W1 h1 => by simp [execOp, h1])
  case h_12 t x i y =>
    exact upd_sound hK hst he hc h (fun W1 h1 => by simp [execOp, h1])
  case h_13 t x i =>
    split at hc
    · rename_i kt et hu
      obtain ⟨k, hk, hc⟩ := Option.bind_eq_some_iff.1 hc
      obtain ⟨j, hj, hc⟩ := Option.bind_eq_some_iff.1 hc
      obtain ⟨z, hz, hc⟩ := Option.map_eq_some_iff.1 hc
      subst hc
      simp only [evB, evEnt] at h
      have hx := hg x
      have hi := hg i
      have hun := ktOf_ok hk
      split at h
      · rename_i kx key hxx hii
        rw [hxx] at hx; rw [hii] at hi
        simp only [SV.Is] at hx hi
        obtain ⟨l, hl, hxv⟩ := hx
        split at h
        · rename_i kt' ps hany
          obtain ⟨⟨hkt, hK1⟩, h⟩ := h
          subst hkt
          have hik := isK_ok hK1
          obtain ⟨ob, es, hob, hown, hb, hmi, hr0⟩ := anyAt_ok hst hl hany
          have hlen := hmi.len
          rcases upd_ok (r := r) hik (SV.of_is r z) hmi with ⟨f1, f2, f3, f4, f5⟩ | ⟨q, en, s2, f1, f2, f3, f4, f5, f6, f7⟩
          · simp only [f1] at h
            have hm2 : MapIs r kt'.desc 0 (ps ++ [(key, SV.of z)]) (es.push ⟨key, z, ps.length⟩).toList := by
              rw [← hlen]; simpa using f4
            have hSt := hst.setMap hl hob hown hb hr0 hm2
            refine val_wp (o := ⟨dst, .mapEntry t x i, type, pos, after, guard⟩) (W1 := { W with heap := W.heap.setIfInBounds l.blk (.map (es.push ⟨key, z, ps.length⟩) (ps ++ [(key, SV.of z)]).length) }) (u := .tuple #[z, goInt ps.length]) ?_ (hK _ _ [] _ _ h (by simpa using hSt) ?_ (by simp [quiet]))
            · have zrun : ∀ W' : World, (zeroValue et).run P W' = .ok z W' := fun W' => by simp [zeroValue, typeInfo, hj, hz]
              simp [execOp, hxv, hi, Instr.mapEntry, run_underlying hu, Go.MapKept.run_getObj_map hb, Go.MapKept.run_checkKey hun hik, Go.MapKept.run_findKey hun f2, zrun, Go.MapKept.run_setObj_map _ hb]
            · simp only [SV.Is, SV.IsL, List.append_nil]
              exact ⟨[z, goInt ps.length], rfl, z, _, rfl, SV.of_is r z, _, _, rfl, rfl, rfl⟩
          · simp only [Nat.zero_add] at f1 f2
            simp only [f1] at h
            have hjj : es[q]? = some en := by simpa using f3
            have hmod : (es.modify q fun e => { e with key := key }) = es := by
              apply Array.ext'
              rw [Array.toList_modify]
              exact modify_same fun e he => by
                rw [f3] at he
                injection he with he; subst he
                rw [← f4]
            have hSt := hst.setMap hl hob hown hb hr0 hmi
            have hborn : en.born = q := by
              have key2 : ∀ (ps : List (Value × SV)) (es : List MapEntry) (n q : Nat), MapIs r kt'.desc n ps es → es[q]? = some en → en.born = n + q := by
                intro ps
                induction ps with
                | nil => intro es n q h1 h2; simp only [MapIs] at h1; subst h1; simp at h2
                | cons p ps ih =>
                  intro es n q h1 h2
                  obtain ⟨e, t, rfl, _, _, h3, _, h5⟩ := h1
                  cases q with
                  | zero => simp at h2; subst h2; simpa using h3
                  | succ q => rw [ih t (n + 1) q h5 (by simpa using h2)]; omega
              simpa using key2 ps es.toList 0 q hmi f3
            refine val_wp (o := ⟨dst, .mapEntry t x i, type, pos, after, guard⟩) (W1 := { W with heap := W.heap.setIfInBounds l.blk (.map es ps.length) }) (u := .tuple #[en.val, goInt q]) ?_ (hK _ _ [] _ _ h (by simpa using hSt) ?_ (by simp [quiet]))
            · simp [execOp, hxv, hi, Instr.mapEntry, run_underlying hu, Go.MapKept.run_getObj_map hb, Go.MapKept.run_checkKey hun hik, Go.MapKept.run_findKey hun f2, hjj, f4, Go.MapKept.run_keyThatStays hik, Go.MapKept.run_setObj_map _ hb, hborn, hmod]
            · simp only [SV.Is, SV.IsL, List.append_nil]
              exact ⟨[en.val, goInt q], rfl, en.val, _, rfl, f5, _, _, rfl, rfl, rfl⟩
        · exact h.elim
      · exact h.elim
    · cases hc
  case h_14 t x j y =>
    injection hc with hc; subst hc
    simp only [evB, evEntSt] at h
    have hx := hg x
    have hj := hg j
    split at h
    · rename_i kx qq jj hxx hjj
      rw [hxx] at hx; rw [hjj] at hj
      simp only [SV.Is] at hx hj
      obtain ⟨l, hl, hxv⟩ := hx
      split at h
      · rename_i kt' ps hany
        obtain ⟨⟨h0, h1⟩, h⟩ := h
        obtain ⟨ob, es, hob, hown, hb, hmi, hr0⟩ := anyAt_ok hst hl hany
        obtain ⟨f1, f2, f3⟩ := set_ok (d := kt'.desc) (hg y) hmi jj.toNat (by omega)
        have hm2 : MapIs r kt'.desc 0 (setM (XO.get e (XO.of y)) jj.toNat ps) (es.modify jj.toNat fun e => { e with val := a.eval y }).toList := by
          rw [Array.toList_modify]; exact f1
        have hSt := hst.setMap hl hob hown hb hr0 hm2
        rw [f2] at hSt
        have f3' : es.findIdx? (fun e => (e.born : Int) == jj) = some jj.toNat := by
          rw [show es.findIdx? (fun e => (e.born : Int) == jj) = es.toList.findIdx? (fun e => (e.born : Int) == jj) by cases es; simp]
          rw [← f3]
          congr 1
          funext e
          congr 1
          omega
        refine skip_wp (o := ⟨dst, .entryStore t x j y, type, pos, after, guard⟩) (W1 := { W with heap := W.heap.setIfInBounds l.blk (.map (es.modify jj.toNat fun e => { e with val := a.eval y }) ps.length) }) ?_ (hK _ _ [] _ _ h (by simpa using hSt) (by simp only [SV.Is]; exact ⟨[], rfl, by simp [SV.IsL]⟩) (by simp [quiet]))
        simp [execOp, hxv, hj, Instr.entryStore, Go.MapKept.run_getObj_map hb, asInt, asIntOf, f3', Go.MapKept.run_setObj_map _ hb]
      · exact h.elim
    · exact h.elim
  case h_15 s d x =>
    split at hc
    · rename_i el hs hd
      split at hc
      · rename_i he
        injection hc with hc; subst hc
        simp only [evB] at h
        split at h
        · rename_i str hx
          have hx1 := hg x
          rw [hx] at hx1; simp only [SV.Is] at hx1
          have hrun := run_bytes_of_string (P := P) W s d el str hs hd he
          have hgc := grownCap_ge W str.size 0 el
          generalize hcp : grownCap W str.size 0 el = cp at hrun hgc
          have hb : Below W.heap.size W (W.drew.alloc (.cells (bytesRow str cp) el ((bytesRow str cp).size, (bytesRow str cp).size + 1))) := ((Below.refl _ _).drew).alloc (Nat.le_refl _) _
          have hbl : (bytesRow str cp).size = cp := by simp [bytesRow]; omega
          have hSt : St base w0 (r ++ [⟨W.heap.size, 0, cp⟩]) (m ++ [⟨false, bytesC str⟩]) (W.drew.alloc (.cells (bytesRow str cp) el ((bytesRow str cp).size, (bytesRow str cp).size + 1))) := by
            refine hst.add (Low.of_below hb) (Same.below hst hb) _ _ ⟨fun _ _ => ⟨_, el, _, heap_alloc_new _ _, by simp [hbl], ?_, by simp⟩, by simp only; rw [bytesC_len]; exact hgc, by simp, (Array.getElem?_eq_some_iff.1 (heap_alloc_new W.drew _)).1, trivial⟩ rfl (Nat.le_refl _)
            simp only [List.drop_zero, bytesC_len]
            have : (bytesRow str cp).toList.take str.size = str.data.toList.map fun x => Value.int .u8 x.toNat := by
              simp [bytesRow]
            rw [this]
            exact bytesC_is str
          refine val_wp (o := ⟨dst, .convert s d x, type, pos, after, guard⟩) (W1 := W.drew.alloc (.cells (bytesRow str cp) el ((bytesRow str cp).size, (bytesRow str cp).size + 1))) (u := .slice (some ⟨W.heap.size, 0, none⟩) str.size cp) ?_ (hK _ _ [⟨W.heap.size, 0, cp⟩] _ _ h hSt ?_ fun _ => Same.below hst hb)
          · simp [execOp, hx1, hrun]
          · simp only [SV.Is]
            exact ⟨⟨W.heap.size, 0, cp⟩, cp, by rw [← hst.len, List.getElem?_append_right (Nat.le_refl _)]; simp, hgc, by simp, by simp⟩
        · exact h.elim
      · cases hc
    · cases hc
  case h_16 => cases hc
end
end Go.Proofs.Ytibefgdjijmncaa.Sz
