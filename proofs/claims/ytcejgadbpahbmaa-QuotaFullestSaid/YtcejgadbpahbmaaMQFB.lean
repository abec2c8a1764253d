/- Walks and plain facts for the law QuotaFullest, part MQFB. No condition. -/
import Derived.Test.YtcejgadbpahbmaaMQFA
import Derived.Laws.MakeOwn
import Derived.Laws.IdiomStrings
import Derived.Deep.RegionHeld
import Derived.Deep.LoopGhost
set_option linter.unusedVariables false
set_option linter.unusedSimpArgs false
section
namespace Go.Proofs.Ytcejgadbpahbmaa.Sz
open Go.RowKit
section
variable {P : Program} {n : Nat} {r : List Loc} {e : Env} {m : Mem} {a : Act} {base : Nat → Prop} {w0 W : World}
structure SrcIs (P : Program) (W : World) (t' : TypeId) (z : Nat) (xv : Value) (k : Nat) (us : List Value) : Prop where
  ty : (∃ e, P.underlying t' = some (.slice e)) ∨ P.underlying t' = some .string
  len : ∀ w, (Builtin.lenOf xv).run P w = .ok k w
  now : (Builtin.firstCells z k xv).run P W = .ok us.toArray W
  drawn : (Builtin.firstCells z k xv).run P W.drew = .ok us.toArray W.drew
theorem St.kill1 [Inp] (hst : St base w0 r m W) (j : Nat) : St base w0 r (m.set j ⟨false, []⟩) W := by
  have hget : ∀ (k' : Nat) (y : SObj), (m.set j ⟨false, []⟩)[k']? = some y → (k' = j ∧ y = ⟨false, []⟩ ∧ j < m.length) ∨ (k' ≠ j ∧ m[k']? = some y) := by
    intro k' y hy
    rw [List.getElem?_set] at hy
    by_cases e : j = k'
    · subst e
      simp at hy
      exact .inl ⟨rfl, hy.2.symm, hy.1⟩
    · rw [if_neg e] at hy
      exact .inr ⟨fun x => e x.symm, hy⟩
  obtain ⟨F, hF⟩ := hst.hid
  refine ⟨hst.low, hst.from_, hst.inp, by simp [hst.len], fun k' l' y q1 q2 => ?_, fun k1 k2 l1 l2 y1 y2 q1 q2 q3 q4 hne hown hal => ?_, fun i => if i = j then [] else F i, fun i x y h1 h2 => ?_, fun i b hb => ?_, fun i b hb k' x y h1 h2 hal => ?_, fun i i' b hb hb' => ?_⟩
  · rcases hget k' y q2 with ⟨rfl, rfl, hlt⟩ | ⟨hne, hy⟩
    · exact .dead (hst.obj k' l' _ q1 (List.getElem?_eq_getElem hlt)).lt
    · exact hst.obj k' l' y q1 hy
  · rcases hget k1 y1 q3 with ⟨rfl, rfl, _⟩ | ⟨hne1, hy1⟩
    · simp at hown
    · rcases hget k2 y2 q4 with ⟨rfl, rfl, _⟩ | ⟨hne2, hy2⟩
      · simp at hal
      · exact hst.sep k1 k2 l1 l2 y1 y2 q1 q2 hy1 hy2 hne hown hal
  · rcases hget i y h2 with ⟨rfl, rfl, _⟩ | ⟨hne, hy⟩
    · simp
    · simp only [if_neg hne]; exact hF.is i x y h1 hy
  · split at hb
    · simp at hb
    · exact hF.base i b hb
  · split at hb
    · simp at hb
    · rcases hget k' y h2 with ⟨rfl, rfl, _⟩ | ⟨hne, hy⟩
      · simp at hal
      · exact hF.far i b hb k' x y h1 hy hal
  · split at hb
    · simp at hb
    · split at hb'
      · simp at hb'
      · exact hF.apart i i' b hb hb'
theorem St.kill [Inp] (hst : St base w0 r m W) (S : SV) : St base w0 r (kill m S) W := by
  unfold Sz.kill
  split
  · exact hst.kill1 _
  · exact hst
theorem run_app_room (t t' ty el : TypeId) (i : TypeInfo) (ht : P.underlying t = some (.slice el)) (hi : P.info? el = some i)
    (g o sLen sCap : Nat) (cur : Array Value) (T : TypeId) (hg : W.heap[g]? = some (.cells cur T (0, 0)))
    (xv : Value) (k : Nat) (news : List Value) (hl : news.length = k * i.size) (hs : SrcIs P W t' i.size xv k news) (h1 : ∀ u ∈ news, u.oneCell' = true)
    (hroom : sLen + k ≤ sCap) (hfit : o + sLen * i.size + news.length ≤ cur.size) :
    (Builtin.append_ #[t, t'] ty #[.slice (some ⟨g, o, none⟩) sLen sCap, xv]).run P W =
      .ok (.slice (some ⟨g, o, none⟩) (sLen + k) sCap) (W.setRow g (cur.toList.take (o + sLen * i.size) ++ news ++ cur.toList.drop (o + sLen * i.size + news.length)).toArray) := by
  obtain ⟨hty, hlen, hnow, hdrawn⟩ := hs
  have hst := run_storeCells_at P g (o + sLen * i.size) T news 0 cur W hg (by simpa using hfit) h1
  simp only [Nat.add_zero] at hst
  rcases hty with ⟨e, he⟩ | he <;> simp [Builtin.append_, run_underlying ht, run_underlying he, sizeOf, typeInfo, hi, hlen, hroom, hnow, Addr.add_lit, hst]
theorem run_app_grow (t t' ty el : TypeId) (i : TypeInfo) (z : Value) (ht : P.underlying t = some (.slice el)) (hi : P.info? el = some i) (hz : i.zero = some z)
    (b : Option Addr) (sLen sCap : Nat) (olds : List Value) (holds : (Builtin.firstCells i.size sLen (.slice b sLen sCap)).run P W.drew = .ok olds.toArray W.drew)
    (xv : Value) (k : Nat) (news : List Value) (hs : SrcIs P W t' i.size xv k news)
    (hg : sCap < sLen + k) (h63 : ((sLen + k : Nat) : Int) ≤ 9223372036854775807) (hfit : Builtin.nextslicecap (sLen + k) sCap * i.bytes ≤ 281474976710656) :
    (Builtin.append_ #[t, t'] ty #[.slice b sLen sCap, xv]).run P W =
      .ok (.slice (some ⟨W.heap.size, 0, none⟩) (sLen + k) (grownCap W (sLen + k) sCap el))
        (W.drew.alloc (.cells ((olds ++ news) ++ (Builtin.zeroCells z.cells (grownCap W (sLen + k) sCap el - (sLen + k))).toList).toArray el)) := by
  obtain ⟨hty, hlen, hnow, hdrawn⟩ := hs
  have hn : ¬ (sLen + k ≤ sCap) := by omega
  have h63' : ¬ (9223372036854775807 < ((sLen : Int) + (k : Int))) := by omega
  have h48' : ¬ (281474976710656 < Builtin.nextslicecap (sLen + k) sCap * i.bytes) := by omega
  rcases hty with ⟨e, he⟩ | he
  all_goals
    simp [Builtin.append_, run_underlying ht, run_underlying he, sizeOf, typeInfo, zeroValue, hi, hz, hlen, hn, h63', h48', Question.forced, hdrawn, holds, newRow, grownCap]
    congr 2
    apply Array.ext'
    simp [List.append_assoc]
theorem take_at {xs : List Value} {k : Nat} {Q : Nat → Value → Prop} (h : ∀ j u, xs[j]? = some u → Q j u) : ∀ j u, (xs.take k)[j]? = some u → Q j u := by
  intro j u hj
  rw [List.getElem?_take] at hj
  split at hj
  · exact h j u hj
  · cases hj
theorem firstCells_at {p : Option Addr} {k c z : Nat} {us : List Value} (hl : us.length = k * z) (h : (∃ a, p = some a ∧ ∀ j v, us[j]? = some v → W.cell? (a.add j) = some v) ∨ (p = none ∧ us = [])) :
    (Builtin.firstCells z k (.slice p k c)).run P W = .ok us.toArray W := by
  rcases h with ⟨a, rfl, h⟩ | ⟨rfl, rfl⟩
  · exact run_firstCells_some (P := P) W z k a k c us hl h
  · simp [Builtin.firstCells]
theorem Same.drew_ [Inp] (hst : St base w0 r m W) : Same r W W.drew := Same.below hst (Below.refl _ _).drew
theorem src_of_sl [Inp] (hst : St base w0 r m W) {s : SV} {z k : Nat} {xs : List SV} {u : Value} {t' e : TypeId} (ht : P.underlying t' = some (.slice e)) (h : slOf m z s = some (k, xs)) (hs : s.Is r u) (hl : xs.length = k * z) :
    ∃ us, SV.IsL r xs us ∧ SrcIs P W t' z u k us ∧ (∃ p c, u = .slice p k c) := by
  obtain ⟨p, c, us, rfl, hus, hlen, hcell⟩ := sl_cells hst h hs
  refine ⟨us, hus, ⟨.inl ⟨e, ht⟩, fun w => by simp [Builtin.lenOf], firstCells_at (by rw [hlen, hl]) ?_, firstCells_at (by rw [hlen, hl]) ?_⟩, p, c, rfl⟩
  · rcases hcell with ⟨a, rfl, hc⟩ | hn
    · exact .inl ⟨a, rfl, hc W (Same.refl _ _)⟩
    · exact .inr hn
  · rcases hcell with ⟨a, rfl, hc⟩ | hn
    · exact .inl ⟨a, rfl, hc _ (Same.drew_ hst)⟩
    · exact .inr hn
theorem bytesC_is (b : ByteArray) : SV.IsL r (bytesC b) (b.data.toList.map fun x => Value.int .u8 x.toNat) := by
  have := IsL_v (r := r) (b.data.toList.map fun x => Value.int .u8 x.toNat)
  simpa [bytesC, List.map_map, Function.comp_def] using this
theorem bytesC_len (b : ByteArray) : (bytesC b).length = b.size := by
  simp [bytesC]
theorem bytesC_one (b : ByteArray) : (bytesC b).all SV.one = true := by
  unfold bytesC
  rw [List.all_eq_true]
  intro x hx
  obtain ⟨y, _, rfl⟩ := List.mem_map.1 hx
  rfl
theorem src_of_str (b : ByteArray) {t' : TypeId} (ht : P.underlying t' = some .string) : SrcIs P W t' 1 (.string b) b.size (b.data.toList.map fun x => Value.int .u8 x.toNat) := by
  have hf : ∀ w, (Builtin.firstCells 1 b.size (.string b)).run P w = .ok (b.data.toList.map fun x => Value.int .u8 x.toNat).toArray w := by
    intro w
    simp only [Builtin.firstCells, Sem.run_pure]
    congr 1
    have : b.extract 0 b.size = b := by
      exact ByteArray.extract_zero_size
    rw [this]
    apply Array.ext'
    simp
  exact ⟨.inr ht, fun w => by simp [Builtin.lenOf], hf _, hf _⟩
theorem run_append_wp {o : Oper} {Kr : Act → World → Prop} {Q : Exit → Act → World → Prop} {s x : Operand} {t t' : TypeId} {u : Value} {W1 : World} (ho : o.op = .call { callee := .builtin .append, args := #[s, x], argTypes := #[t, t'] })
    (h : (Builtin.append_ #[t, t'] o.type #[a.eval s, a.eval x]).run P W = .ok u W1) (hK : Kr (a.put o.dst u) W1) : o.wp P a W Kr Q := by
  refine val_wp ?_ hK
  unfold execOp
  rw [ho]
  simp [resolve, invoke, builtin, h]
theorem app_sound [Inp] {o : Oper} {Kr : Act → World → Prop} {Q : Exit → Act → World → Prop} {s x : Operand} {t t' el : TypeId} {i : TypeInfo} {z : Value} {S : SV}
    (ho : o.op = .call { callee := .builtin .append, args := #[s, x], argTypes := #[t, t'] }) (ht : P.underlying t = some (.slice el)) (hi : P.info? el = some i) (hz : i.zero = some z) (hsz : 0 < i.size) (hzs : z.cells.size = i.size)
    (hst : St base w0 r m W) (hs : S.Is r (a.eval s)) {k1 k2 : Nat} {xs ys : List SV} (h1 : slOf m i.size S = some (k1, xs)) {us : List Value} (hus : SV.IsL r ys us) (hsrc : SrcIs P W t' i.size (a.eval x) k2 us)
    (hg : grows m i.size S) (hlx : xs.length = k1 * i.size) (hly : ys.length = k2 * i.size) (h0 : 0 < k2) (hone : ys.all SV.one = true) (hmax : k1 + k2 ≤ maxLen) (hby : (k1 + k2) * i.bytes ≤ 140737488355328)
    (hK : ∀ t u W1, St base w0 (r ++ t) (kill m S ++ [⟨true, xs ++ ys⟩]) W1 → (SV.row m.length 0 (k1 + k2) i.size).Is (r ++ t) u → Kr (a.put o.dst u) W1) : o.wp P a W Kr Q := by
  have hsmall : k1 + k2 ≤ 9223372036854775807 := by simp only [maxLen] at hmax; omega
  have hlu := IsL_len hus
  have h1c : ∀ v ∈ us, v.oneCell' = true := IsL_one hus hone
  have grow : ∀ (olds : List Value) (cap : Nat), SV.IsL r xs olds → ∀ u W1, u = .slice (some ⟨W.heap.size, 0, none⟩) (k1 + k2) cap → k1 + k2 ≤ cap →
      W1 = W.drew.alloc (.cells ((olds ++ us) ++ (Builtin.zeroCells z.cells (cap - (k1 + k2))).toList).toArray el) →
      St base w0 (r ++ [⟨W.heap.size, 0, cap * i.size⟩]) (kill m S ++ [⟨true, xs ++ ys⟩]) W1 ∧ (SV.row m.length 0 (k1 + k2) i.size).Is (r ++ [⟨W.heap.size, 0, cap * i.size⟩]) u := by
    intro olds cap holds u W1 hu hcap hW1
    have hlo := IsL_len holds
    have hd := hst.drew
    have hbelow : Low base W W1 := by rw [hW1]; exact Low.of_below (((Below.refl _ _).drew).alloc (Nat.le_refl _) _)
    have hsame : Same r W W1 := by rw [hW1]; exact Same.below hst (((Below.refl _ _).drew).alloc (Nat.le_refl _) _)
    have hkill : St base w0 r (kill m S) W := hst.kill S
    have hmul : k1 * i.size + k2 * i.size = (k1 + k2) * i.size := (Nat.add_mul _ _ _).symm
    have hcm : (k1 + k2) * i.size ≤ cap * i.size := Nat.mul_le_mul_right _ hcap
    refine ⟨hkill.add hbelow hsame _ _ (ObjAt.new (T := el) (by rw [hW1]; exact heap_alloc_new _ _) ?_ (by simp; omega) ?_ (hst.from_ _ hst.low.size)) rfl (Nat.le_refl _), ?_⟩
    · simp [size_zeroCells, hzs, hlo, hlu, hlx, hly]
      rw [← Nat.add_assoc, hmul, ← Nat.add_mul]
      apply Nat.mul_le_mul_right
      omega
    · simp only [List.drop_zero]
      rw [List.take_append_of_le_length (by simp [hlo, hlu]), List.take_of_length_le (by simp [hlo, hlu])]
      exact SV.IsL.grow _ (IsL_append holds hus)
    · simp only [SV.Is]
      refine ⟨⟨W.heap.size, 0, cap * i.size⟩, cap, by rw [← hst.len, List.getElem?_append_right (Nat.le_refl _)]; simp, hcap, by simp, ?_⟩
      simpa using hu
  obtain ⟨p1, c1, olds, hsu0, holds0, hlo0, hcell0⟩ := sl_cells hst h1 hs
  have hold : (Builtin.firstCells i.size k1 (.slice p1 k1 c1)).run P W.drew = .ok olds.toArray W.drew := by
    refine firstCells_at (by rw [hlo0, hlx]) ?_
    rcases hcell0 with ⟨a1, rfl, hc⟩ | hn
    · exact .inl ⟨a1, rfl, hc _ (Same.drew_ hst)⟩
    · exact .inr hn
  have grown : c1 < k1 + k2 → o.wp P a W Kr Q := fun hlt => by
    have hr := run_app_grow (P := P) t t' o.type el i z ht hi hz p1 k1 c1 olds hold (a.eval x) k2 us hsrc hlt (by omega) (growslice_fits (by omega) hby)
    have hgc := grownCap_ge W (k1 + k2) c1 el
    obtain ⟨q1, q2⟩ := grow olds (grownCap W (k1 + k2) c1 el) holds0 _ _ rfl hgc rfl
    refine run_append_wp ho ?_ (hK _ _ _ q1 q2)
    rw [hsu0]
    exact hr
  have hg' := hg
  unfold grows at hg'
  split at hg'
  · simp only [SV.Is] at hs
    rw [hsu0] at hs
    injection hs with e1 e2 e3
    exact grown (by omega)
  · rename_i kk so n1 sz
    obtain ⟨rfl, hg'⟩ := hg'
    split at hg'
    · rename_i ob hob
      obtain ⟨⟨hown, hfull⟩, hmm⟩ := hg'
      have hn1 : n1 = k1 := by
        have hh := h1
        simp only [slOf, hob, if_true] at hh
        rw [if_pos hfull] at hh
        injection hh with hh; injection hh
      subst hn1
      simp only [SV.Is] at hs
      obtain ⟨l, cap, hl, hcap, hroom, hsu⟩ := hs
      by_cases hroom2 : n1 + k2 ≤ cap
      · -- in place
        have hO := hst.obj kk l ob hl hob
        obtain ⟨c, T, fr, g1, g2, g3, g4⟩ := hO.there hmm (.inl hown)
        have g5 := hO.fits
        have := g4 hown
        subst this
        have hmul : n1 * i.size + k2 * i.size = (n1 + k2) * i.size := (Nat.add_mul _ _ _).symm
        have hcm : (n1 + k2) * i.size ≤ cap * i.size := Nat.mul_le_mul_right _ hroom2
        have hfit : l.off + so + n1 * i.size + us.length ≤ c.size := by rw [hlu, hly]; omega
        have hr := run_app_room (P := P) t t' o.type el i ht hi l.blk (l.off + so) n1 cap c T g1 (a.eval x) k2 us (by rw [hlu]; exact hly) hsrc h1c hroom2 hfit
        rw [← hsu] at hr
        generalize hc' : (List.take (l.off + so + n1 * i.size) c.toList ++ us ++ List.drop (l.off + so + n1 * i.size + us.length) c.toList).toArray = c' at hr
        have hsz : c'.size = c.size := by rw [← hc']; simp; omega
        have hadd : St base w0 (r ++ [⟨l.blk, l.off + so, l.room - so⟩]) (m.set kk ⟨false, []⟩ ++ [⟨true, xs ++ ys⟩]) (W.setRow l.blk c') := by
          refine hst.move hl hob hown (low_setRow (hO.own hown) g1 hsz) (fun j _ hj => setRow_other _ _ _ _ hj) rfl ⟨fun _ _ => ⟨c', T, (0, 0), setRow_heap _ _ _ _ _ _ g1, by simp only; omega, ?_, fun _ => rfl⟩, by simp only [List.length_append]; omega, fun _ => hO.own hown, by simpa using hO.lt, trivial⟩ rfl
          · refine SV.IsL.grow _ ?_
            have hlx' : (xs ++ ys).length = n1 * i.size + k2 * i.size := by simp [hlx, hly]
            rw [← hc']
            have hxs : xs = (ob.cells.drop so).take (n1 * i.size) := by
              have hh := h1
              simp only [slOf, hob, if_true] at hh
              rw [if_pos (by omega)] at hh
              injection hh with hh; injection hh with _ hh
              exact hh.symm
            have e1 : ((List.take (l.off + so + n1 * i.size) c.toList ++ us ++ List.drop (l.off + so + n1 * i.size + us.length) c.toList).drop (l.off + so)).take (xs ++ ys).length = ((c.toList.drop (l.off + so)).take (n1 * i.size)) ++ us := by
              rw [hlx']
              apply List.ext_getElem?
              intro j
              simp only [List.getElem?_take, List.getElem?_drop, List.getElem?_append, List.length_append, List.length_take, List.length_drop, Array.length_toList]
              have hus' : us.length = k2 * i.size := by rw [hlu, hly]
              by_cases j1 : j < n1 * i.size
              · repeat (first | rw [if_pos (by omega)] | rw [if_neg (by omega)])
              · by_cases j2 : j < n1 * i.size + k2 * i.size
                · repeat (first | rw [if_pos (by omega)] | rw [if_neg (by omega)])
                  congr 1
                  omega
                · repeat (first | rw [if_pos (by omega)] | rw [if_neg (by omega)])
                  rw [List.getElem?_eq_none (by omega)]
            simp only [List.toList_toArray]
            rw [e1]
            refine IsL_append ?_ hus
            rw [hxs]
            have := IsL_take (n1 * i.size) (IsL_drop so g3)
            rw [List.drop_take, List.drop_drop, List.take_take, Nat.min_eq_left (by omega)] at this
            exact this
        refine run_append_wp ho hr (hK [⟨l.blk, l.off + so, l.room - so⟩] _ _ hadd ?_)
        simp only [SV.Is]
        refine ⟨⟨l.blk, l.off + so, l.room - so⟩, cap, by rw [← hst.len, List.getElem?_append_right (Nat.le_refl _)]; simp, hroom2, by simp only; omega, ?_⟩
        simp [hsu]
      · -- grown
        refine grown ?_
        rw [hsu] at hsu0
        injection hsu0 with e1 e2 e3
        omega
    · exact hg'.elim
  · simp only [SV.Is] at hs
    obtain ⟨ad, hs, _⟩ := hs
    rw [hsu0] at hs
    injection hs with e1 e2 e3
    exact grown (by omega)
  · exact hg'.elim
theorem app_zero [Inp] {o : Oper} {Kr : Act → World → Prop} {Q : Exit → Act → World → Prop} {s x : Operand} {t t' el : TypeId} {i : TypeInfo} {S : SV}
    (ho : o.op = .call { callee := .builtin .append, args := #[s, x], argTypes := #[t, t'] }) (ht : P.underlying t = some (.slice el)) (hi : P.info? el = some i)
    (hst : St base w0 r m W) (hs : S.Is r (a.eval s)) {k1 : Nat} {xs : List SV} (h1 : slOf m i.size S = some (k1, xs)) (hcap : capOk S) {us : List Value} (hu0 : us = []) (hsrc : SrcIs P W t' i.size (a.eval x) 0 us) (hK : Kr (a.put o.dst (a.eval s)) W) : o.wp P a W Kr Q := by
  subst hu0
  have hsv : ∃ p n c, a.eval s = .slice p n c ∧ n ≤ c := by
    unfold slOf at h1
    split at h1
    · simp only [SV.Is] at hs
      obtain ⟨l, cap, hl, hc, hroom, hsu⟩ := hs
      exact ⟨_, _, _, hsu, hc⟩
    · simp only [SV.Is] at hs
      exact ⟨_, _, _, hs, hcap⟩
    · simp only [SV.Is] at hs
      obtain ⟨p, c, hs, _⟩ := hs
      exact ⟨_, _, _, hs, Nat.zero_le _⟩
    · simp only [SV.Is] at hs
      obtain ⟨p, hs, _⟩ := hs
      exact ⟨_, _, _, hs, Nat.zero_le _⟩
    · cases h1
  obtain ⟨p, n1, c1, hsv, hle⟩ := hsv
  obtain ⟨hty, hlen, hnow, hdrawn⟩ := hsrc
  refine run_append_wp ho ?_ hK
  rw [hsv]
  rcases hty with ⟨e, he⟩ | he <;> cases p <;> simp [Builtin.append_, run_underlying ht, run_underlying he, sizeOf, typeInfo, hi, hlen, hle, hnow, storeCells]
theorem upd_sound [Inp] {G : List CEntry} {o : Oper} {xb : XB} {K : SV → Mem → Prop} {t : TypeId} {x i y : Operand} {Kr : Act → World → Prop} {Q : Exit → Act → World → Prop}
    (hK : ∀ s m' t u W1, K s m' → St base w0 (r ++ t) m' W1 → s.Is (r ++ t) u → (quiet G e xb = true → Same r W W1) → Kr (a.put o.dst u) W1) (hst : St base w0 r m W) (he : EnvIs n r e a.tmps)
    (hc : (match P.underlying t with | some (.map kt _) => (ktOf P kt).map fun k => XB.mapUpd k (XO.of x) (XO.of i) (XO.of y) | _ => none) = some xb) (h : evB G xb e m K)
    (hrun : ∀ W1, (Instr.mapUpdate t (a.eval x) (a.eval i) (a.eval y)).run P W = .ok () W1 → (execOp a.eval o).run P W = .ok .skip W1) : o.wp P a W Kr Q := by
  have hg := he.get
  split at hc
  · rename_i kt et hu
    obtain ⟨k, hk, hc⟩ := Option.map_eq_some_iff.1 hc
    subst hc
    simp only [evB, evUpd] at h
    have hx := hg x
    have hi := hg i
    have hun := ktOf_ok hk
    split at h
    · rename_i kx key hxx hii
      rw [hxx] at hx; rw [hii] at hi
      simp only [SV.Is] at hx hi
      obtain ⟨l, hl, hxv⟩ := hx
      split at h
      · rename_i kt' ps hany
        obtain ⟨⟨hkt, hK1⟩, h⟩ := h
        subst hkt
        have hik := isK_ok hK1
        obtain ⟨ob, es, hob, hown, hb, hmi, hr0⟩ := anyAt_ok hst hl hany
        have hlen := hmi.len
        rcases upd_ok (r := r) hik (hg y) hmi with ⟨f1, f2, f3, f4, f5⟩ | ⟨q, en, s2, f1, f2, f3, f4, f5, f6, f7⟩
        · have hm2 : MapIs r kt'.desc 0 (putM key (XO.get e (XO.of y)) ps) (es.push ⟨key, a.eval y, ps.length⟩).toList := by
            rw [← hlen]; simpa using f3
          have hSt := hst.setMap hl hob hown hb hr0 hm2
          rw [f5] at hSt
          refine skip_wp (W1 := { W with heap := W.heap.setIfInBounds l.blk (.map (es.push ⟨key, a.eval y, ps.length⟩) (ps.length + 1)) }) (hrun _ ?_) (hK _ _ [] _ _ h (by simpa using hSt) (by simp only [SV.Is]; exact ⟨[], rfl, by simp [SV.IsL]⟩) (by simp [quiet]))
          rw [hxv, hi]
          simp [Instr.mapUpdate, run_underlying hu, Go.MapKept.run_getObj_map hb, Go.MapKept.run_checkKey hun hik, Go.MapKept.run_findKey hun f2, Go.MapKept.run_setObj_map _ hb]
        · simp only [Nat.zero_add] at f1 f2
          have hjj : es[q]? = some en := by simpa using f3
          have hm2 : MapIs r kt'.desc 0 (putM key (XO.get e (XO.of y)) ps) (es.modify q fun e => { e with key := key, val := a.eval y }).toList := by
            rw [Array.toList_modify]; exact f6
          have hSt := hst.setMap hl hob hown hb hr0 hm2
          rw [f7] at hSt
          refine skip_wp (W1 := { W with heap := W.heap.setIfInBounds l.blk (.map (es.modify q fun e => { e with key := key, val := a.eval y }) ps.length) }) (hrun _ ?_) (hK _ _ [] _ _ h (by simpa using hSt) (by simp only [SV.Is]; exact ⟨[], rfl, by simp [SV.IsL]⟩) (by simp [quiet]))
          rw [hxv, hi]
          simp [Instr.mapUpdate, run_underlying hu, Go.MapKept.run_getObj_map hb, Go.MapKept.run_checkKey hun hik, Go.MapKept.run_findKey hun f2, hjj, f4, Go.MapKept.run_keyThatStays hik, Go.MapKept.run_setObj_map _ hb]
      · exact h.elim
    · exact h.elim
  · cases hc
theorem compB_sound [Inp] {G : List CEntry} (hG : GOk P G) {o : Oper} {xb : XB} {K : SV → Mem → Prop} (hc : compB P o.op = some xb) (h : evB G xb e m K) (hst : St base w0 r m W) (he : EnvIs n r e a.tmps)
    {Kr : Act → World → Prop} {Q : Exit → Act → World → Prop} (hK : ∀ s m' t u W1, K s m' → St base w0 (r ++ t) m' W1 → s.Is (r ++ t) u → (quiet G e xb = true → Same r W W1) → Kr (a.put o.dst u) W1) : o.wp P a W Kr Q := by
  have hg := he.get
  unfold compB at hc
  split at hc
  · rename_i xa hxa
    injection hc with hc; subst hc
    simp only [evB] at h
    obtain ⟨s, u, h1, h2, h3⟩ := compA_sound hxa h hst he
    exact val_wp (h3 W fun _ => Same.refl _ _) (hK s m [] u W h1 (by simpa using hst) (by simpa using h2) fun _ => Same.refl _ _)
  rename_i hA
  obtain ⟨dst, op, type, pos, after, guard⟩ := o
  dsimp only at hc hA hK ⊢
  split at hc
  case h_1 t x =>
    injection hc with hc; subst hc
    simp only [evB] at h
    split at h
    · rename_i cs hcs
      have hus := cells_is hcs (hg x)
      obtain ⟨h1, h2⟩ := hst.new hus t
      refine val_wp (o := ⟨dst, .box t x, type, pos, after, guard⟩) (W1 := W.alloc (.cells (a.eval x).cells t)) (u := .pointer (some ⟨W.heap.size, 0, none⟩)) ?_ (hK _ _ _ _ _ h h1 ?_ fun _ => h2)
      · simp [execOp, Instr.box, newVar, newRow]
      · simp only [SV.Is]
        exact ⟨⟨W.heap.size, 0, _⟩, by rw [← hst.len, List.getElem?_append_right (Nat.le_refl _)]; simp; rfl, by simp⟩
    · exact h.elim
  case h_2 t parts =>
    obtain ⟨i, hi, hc⟩ := Option.bind_eq_some_iff.1 hc
    obtain ⟨z, hz, hc⟩ := Option.bind_eq_some_iff.1 hc
    split at hc
    · rename_i fs hu
      split at hc
      · rename_i hall
        obtain ⟨xs, hxs, hc⟩ := Option.map_eq_some_iff.1 hc
        subst hc
        simp only [evB] at h
        split at h
        · rename_i cs hcs
          obtain ⟨us, hf, hus⟩ := compParts_is (e := e) (ev := a.eval) hg hxs (svCells_is z) hcs
          refine val_wp (o := ⟨dst, .build t parts, type, pos, after, guard⟩) (W1 := W) (u := .agg us) ?_ (hK _ m [] _ W h (by simpa using hst) ?_ fun _ => Same.refl _ _)
          · have hpl := run_places (P := P) hall W
            have hpl' : (fs.mapM fun f => (do pure (f.offset, ← sizeOf f.type) : Sem (Nat × Nat))).run P W = .ok (fs.map fun f => (f.offset, ((P.info? f.type).map (·.size)).getD 0)) W := by
              rw [Array.mapM_eq_mapM_toList]
              simp only [map_eq_pure_bind, Sem.run_bind, hpl, Result.andThen_ok, Sem.run_pure]
              congr 1
              apply Array.ext'
              simp
            have hfe : (fun j => ((fs.map fun f => (f.offset, ((P.info? f.type).map (·.size)).getD 0))[j]? : Option (Nat × Nat))) = fun (i : Nat) => (fs[i]?).bind fun (f : Field) => (P.info? f.type).map fun j => (f.offset, j.size) := by
              funext j
              rw [Array.getElem?_map]
              cases hj : fs[j]? with
              | none => rfl
              | some f =>
                simp only [Option.map_some, Option.bind_some]
                have : f ∈ fs.toList := by
                  rw [Array.getElem?_eq_some_iff] at hj
                  obtain ⟨_, rfl⟩ := hj
                  simp
                have hs := List.all_eq_true.1 hall f this
                obtain ⟨y, hy⟩ := Option.isSome_iff_exists.1 hs
                simp [hy]
            rw [← hfe] at hf
            simp only [execOp, Instr.build, zeroValue, typeInfo, Sem.run_bind, run_program, hi, Result.andThen_ok, Sem.run_pure, hz, run_underlying hu, hpl']
            rw [show (parts.map fun x => (x.1, a.eval x.2)).toList = parts.toList.map fun p => (p.1, a.eval p.2) by simp]
            rw [hf]
            simp
          · simp only [SV.Is]
            exact ⟨us.toList, by simp, by simpa using hus⟩
        · exact h.elim
      · cases hc
    · rename_i n1 el hu
      obtain ⟨j, hj, hc⟩ := Option.bind_eq_some_iff.1 hc
      obtain ⟨xs, hxs, hc⟩ := Option.map_eq_some_iff.1 hc
      subst hc
      simp only [evB] at h
      split at h
      · rename_i cs hcs
        obtain ⟨us, hf, hus⟩ := compParts_is (e := e) (ev := a.eval) hg hxs (svCells_is z) hcs
        refine val_wp (o := ⟨dst, .build t parts, type, pos, after, guard⟩) (W1 := W) (u := .agg us) ?_ (hK _ m [] _ W h (by simpa using hst) ?_ fun _ => Same.refl _ _)
        · simp only [execOp, Instr.build, zeroValue, typeInfo, Sem.run_bind, run_program, hi, Result.andThen_ok, Sem.run_pure, hz, run_underlying hu, sizeOf, hj]
          rw [show (parts.map fun x => (x.1, a.eval x.2)).toList = parts.toList.map fun p => (p.1, a.eval p.2) by simp]
          rw [hf]
          simp
        · simp only [SV.Is]
          exact ⟨us.toList, by simp, by simpa using hus⟩
      · exact h.elim
    · cases hc
  case h_3 t len parts =>
    split at hc
    · rename_i el hu
      obtain ⟨j, hj, hc⟩ := Option.bind_eq_some_iff.1 hc
      obtain ⟨z, hz, hc⟩ := Option.bind_eq_some_iff.1 hc
      split at hc
      · rename_i hlim
        obtain ⟨xs, hxs, hc⟩ := Option.map_eq_some_iff.1 hc
        subst hc
        simp only [evB] at h
        split at h
        · rename_i cs hcs
          have hzero : SV.IsL r ((List.range (len * j.size)).map fun i => SV.v (z.cells[i % z.cells.size]!)) (((Array.range (len * j.size)).map fun i => z.cells[i % z.cells.size]!).toList) := by
            have := IsL_v (r := r) ((List.range (len * j.size)).map fun i => z.cells[i % z.cells.size]!)
            simpa [List.map_map, Function.comp_def] using this
          obtain ⟨us, hf, hus⟩ := compParts_is (e := e) (ev := a.eval) hg hxs hzero hcs
          obtain ⟨h1, h2⟩ := hst.new hus el
          have hsz : us.size = len * j.size := by
            have e1 := IsL_len hus
            have e2 : cs.length = len * j.size := by
              have key : ∀ (ps : List (Nat × Nat × SV)) (l cs : List SV), fillS l ps = some cs → cs.length = l.length := by
                intro ps
                induction ps with
                | nil => intro l cs h; simp only [fillS] at h; injection h with h; rw [h]
                | cons p ps ih =>
                  obtain ⟨o1, z1, s1⟩ := p
                  intro l cs h
                  simp only [fillS] at h
                  split at h
                  · split at h
                    · rename_i c1 _ hcond
                      rw [ih _ _ h, over_len (by omega)]
                    · cases h
                  · cases h
              have := key _ _ _ hcs
              simpa using this
            rw [← e2, ← e1]; simp
          refine val_wp (o := ⟨dst, .buildSlice t len parts, type, pos, after, guard⟩) (W1 := W.alloc (.cells us el)) (u := .slice (some ⟨W.heap.size, 0, none⟩) len len) ?_ (hK _ _ [⟨W.heap.size, 0, us.size⟩] _ _ h (by simpa using h1) ?_ fun _ => by simpa using h2)
          · have hlim' : ¬ (len * j.size > 2 ^ 24) := by omega
            simp only [execOp, Instr.buildSlice, Sem.run_bind, run_underlying hu, Result.andThen_ok, sizeOf, typeInfo, run_program, hj, Sem.run_pure, if_neg hlim', zeroValue, hz]
            by_cases h0 : len * j.size = 0
            · simp only [h0, if_true, Sem.run_pure, Sem.run_bind, Result.andThen_ok]
              rw [show (parts.map fun x => (x.1, a.eval x.2)).toList = parts.toList.map fun p => (p.1, a.eval p.2) by simp]
              rw [h0] at hf
              have e0 : ((Array.range 0).map fun x => (#[] : Array Value)[x % (#[] : Array Value).size]!) = (Array.range 0).map fun i => z.cells[i % z.cells.size]! := by simp
              rw [e0, hf]
              simp [newRow]
            · simp only [h0, if_false, Sem.run_pure, Sem.run_bind, Result.andThen_ok, typeInfo, run_program, hj, hz]
              rw [show (parts.map fun x => (x.1, a.eval x.2)).toList = parts.toList.map fun p => (p.1, a.eval p.2) by simp]
              rw [hf]
              simp [newRow]
          · simp only [SV.Is]
            exact ⟨⟨W.heap.size, 0, us.size⟩, len, by rw [← hst.len, List.getElem?_append_right (Nat.le_refl _)]; simp, Nat.le_refl _, by simp [hsz], by simp⟩
        · exact h.elim
      · cases hc
    · cases hc
  case h_4 t =>
    obtain ⟨i, hi, hc⟩ := Option.bind_eq_some_iff.1 hc
    obtain ⟨z, hz, hc⟩ := Option.map_eq_some_iff.1 hc
    subst hc
    simp only [evB] at h
    obtain ⟨h1, h2⟩ := hst.new (svCells_is z) t
    refine val_wp (o := ⟨dst, .alloc t, type, pos, after, guard⟩) (W1 := W.alloc (.cells z.cells t)) (u := .pointer (some ⟨W.heap.size, 0, none⟩)) ?_ (hK _ _ _ _ _ h (by simpa using h1) ?_ fun _ => by simpa using h2)
    · simp [execOp, Instr.alloc, newVar, newRow, zeroValue, typeInfo, hi, hz]
    · simp only [SV.Is]
      exact ⟨_, by rw [← hst.len, List.getElem?_append_right (Nat.le_refl _)]; simp; rfl, by simp⟩
  case h_5 t x y =>
    obtain ⟨i, hi, hc⟩ := Option.map_eq_some_iff.1 hc
    subst hc
    simp only [evB] at h
    have hx := hg x
    split at h
    · rename_i k o cs hxx hcs
      rw [hxx] at hx
      simp only [SV.Is] at hx
      obtain ⟨l, hl, hu⟩ := hx
      have hus := cells_is hcs (hg y)
      split at h
      · rename_i ob hob
        obtain ⟨⟨hown, hlen, hfit, hone, hmm⟩, h⟩ := h
        have hO := hst.obj k l ob hl hob
        obtain ⟨c, T, fr, g1, g2, g3, g4⟩ := hO.there hmm (.inl hown)
        have g5 := hO.fits
        have := g4 hown
        subst this
        have hsl := IsL_len hus
        simp only [Array.length_toList] at hsl
        have h1c := IsL_one hus hone
        have hfit2 : l.off + o + 0 + (a.eval y).cells.toList.length ≤ c.size := by simp only [Array.length_toList]; omega
        have hrun := run_storeCells_at P l.blk (l.off + o) T (a.eval y).cells.toList 0 c W g1 hfit2 h1c
        simp only [Nat.add_zero] at hrun
        generalize hc' : (List.take (l.off + o) c.toList ++ (a.eval y).cells.toList ++ List.drop (l.off + o + (a.eval y).cells.toList.length) c.toList).toArray = c' at hrun
        have hsz : c'.size = c.size := by rw [← hc']; simp; omega
        have hW1 := hst.put hl hob hown g1 c' hsz ⟨true, over ob.cells o cs⟩ (hO.put hown g1 g2 hsz (by rw [over_len (by omega)]; exact g5) ?_)
        · refine skip_wp (o := ⟨dst, .store t x y, type, pos, after, guard⟩) (W1 := W.setRow l.blk c') ?_ (hK _ _ [] _ _ h (by simpa using hW1) (by simp only [SV.Is]; exact ⟨[], rfl, by simp [SV.IsL]⟩) (by simp [quiet]))
          simp only [execOp, Instr.storeAt, hu, Instr.sureAddr, Sem.run_bind, Sem.run_pure, Result.andThen_ok, storeVar, sizeOf, typeInfo, run_program, hi]
          rw [if_neg (by omega)]
          simp only [Sem.run_bind, Sem.run_pure, Result.andThen_ok, hrun]
        · rw [over_len (by omega), ← hc']
          simp only [List.toList_toArray]
          rw [real_over _ _ _ _ _ (by simp only [Array.length_toList]; omega) (by simp only [Array.length_toList]; omega)]
          exact IsL_over _ g3 hus
      · exact h.elim
    · exact h.elim
  case h_6 f args argTypes =>
    injection hc with hc; subst hc
    simp only [evB] at h
    have hf := hg f
    have body : ∀ (fid : FuncId) (L : List SV) (vs : List Value) (c : CEntry), look fid G = some c → c.tr L m K → SV.IsL r L vs → (c.q = quiet G e (XB.call (XO.of f) (args.toList.map XO.of))) →
        (execOp a.eval ⟨dst, .call { callee := .value f, args := args, argTypes := argTypes }, type, pos, after, guard⟩).run P W = (callFunc fid vs.toArray).run P W →
        (⟨dst, .call { callee := .value f, args := args, argTypes := argTypes }, type, pos, after, guard⟩ : Oper).wp P a W Kr Q := by
      intro fid L vs c hlook ht hargs hqe hexec
      rcases look_ok hG hlook with ⟨⟨fn, hfn, hname, hbody⟩, hcalls⟩ | hruns
      · have hcall := hcalls _ m _ base w0 W r _ ht hst hargs
        unfold Oper.wp
        have hrun : (execOp a.eval ⟨dst, .call { callee := .value f, args := args, argTypes := argTypes }, type, pos, after, guard⟩).run P W = .ok (.enter fid vs.toArray) W := by
          have hb : fn.body ≠ none := by intro hb; simp [hb] at hbody
          have hname' : ¬ fn.name = "runtime.NumGoroutine" := by simpa using hname
          rw [hexec]
          simp [callFunc, hfn, hname', hb]
        rw [hrun]
        simp only [Oper.upon]
        refine hcall.mono ?_
        rintro en W1 ⟨s, m', t, u, hk, rfl, hst1, hs1, hq⟩
        exact hK s m' t u W1 hk hst1 hs1 (fun hqq => hq (by rw [hqe]; exact hqq))
      · obtain ⟨s, m', t, u, W1, hk, hrun, hst1, hs1, hq⟩ := hruns.runs _ m _ base w0 W r _ ht hst hargs
        exact val_wp (by rw [hexec]; exact hrun) (hK s m' t u W1 hk hst1 hs1 (fun hqq => hq (by rw [hqe]; exact hqq)))
    have harg : SV.IsL r ((args.toList.map XO.of).map (XO.get e)) (args.map a.eval).toList := by
      rw [List.map_map, Array.toList_map]
      exact ev_list hg _
    split at h
    · rename_i fid cap hfx
      rw [hfx] at hf
      simp only [SV.Is] at hf
      obtain ⟨us, hfu, hus⟩ := hf
      split at h
      · rename_i c hlook
        refine body fid _ _ c hlook h (IsL_append harg hus) (by simp [quiet, hfx, hlook]) ?_
        have e2 : ((args.map a.eval).toList ++ us).toArray = args.map a.eval ++ us.toArray := by apply Array.ext'; simp
        rw [e2]
        simp [execOp, resolve, hfu, Deferred.ofValue, invoke]
      · exact h.elim
    · rename_i fid fst hfx
      rw [hfx] at hf
      simp only [SV.Is] at hf
      obtain ⟨us, hfu, hus⟩ := hf
      split at h
      · rename_i c hlook
        refine body fid _ _ c hlook h (IsL_append hus harg) (by simp [quiet, hfx, hlook]) ?_
        have e2 : (us ++ (args.map a.eval).toList).toArray = us.toArray ++ args.map a.eval := by apply Array.ext'; simp
        rw [e2]
        simp [execOp, resolve, hfu, Deferred.ofValue, invoke]
      · exact h.elim
    · exact h.elim
  case h_7 args argTypes =>
    split at hc
    · rename_i s x t t' hax hat
      obtain rfl : args = #[s, x] := by cases args; simp_all
      obtain rfl : argTypes = #[t, t'] := by cases argTypes; simp_all
      split at hc
      · rename_i el hu
        have slices : (∃ e2, P.underlying t' = some (.slice e2)) → ((P.info? el).bind fun i => i.zero.bind fun z => if 0 < i.size ∧ z.cells.size = i.size then some (XB.app i.size i.bytes (XO.of s) (XO.of x)) else none) = some xb → (⟨dst, .call { callee := .builtin .append, args := #[s, x], argTypes := #[t, t'] }, type, pos, after, guard⟩ : Oper).wp P a W Kr Q := by
          rintro ⟨e2, hu2⟩ hc
          obtain ⟨i, hi, hc⟩ := Option.bind_eq_some_iff.1 hc
          obtain ⟨z, hz, hc⟩ := Option.bind_eq_some_iff.1 hc
          split at hc
          · rename_i hcond
            injection hc with hc; subst hc
            simp only [evB] at h
            split at h
            · rename_i k1 xs k2 ys hs1 hs2
              split at h
              · rename_i hk0
                subst hk0
                have hys : ys.length = 0 * i.size := by
                  unfold slOf at hs2
                  split at hs2
                  · split at hs2
                    · split at hs2
                      · split at hs2
                        · injection hs2 with hs2; injection hs2 with q1 q2
                          rw [← q2, q1]; simp
                        · cases hs2
                      · cases hs2
                    · cases hs2
                  · obtain ⟨us2, hus2, hs2⟩ := Option.map_eq_some_iff.1 hs2
                    injection hs2 with q1 q2
                    rw [← q2]; simp [(inpL_some hus2).1, q1]
                  · injection hs2 with hs2; injection hs2 with q1 q2
                    rw [← q2]; simp
                  · injection hs2 with hs2; injection hs2 with q1 q2
                    rw [← q2]; simp
                  · cases hs2
                obtain ⟨us, hus, hsrc, _⟩ := src_of_sl (P := P) hst hu2 hs2 (hg x) hys
                have hnil : us = [] := by
                  have := IsL_len hus
                  rw [hys] at this
                  exact List.length_eq_zero_iff.1 (by omega)
                exact app_zero (o := ⟨dst, .call { callee := .builtin .append, args := #[s, x], argTypes := #[t, t'] }, type, pos, after, guard⟩) rfl hu hi hst (hg s) hs1 h.1 hnil hsrc
                  (hK _ _ [] _ _ h.2 (by simpa using hst) (by simpa using hg s) (by simp [quiet]))
              obtain ⟨⟨q1, q2, q3, q4, q5, q6, q7⟩, h⟩ := h
              obtain ⟨us, hus, hsrc, _⟩ := src_of_sl (P := P) hst hu2 hs2 (hg x) q3
              exact app_sound (o := ⟨dst, .call { callee := .builtin .append, args := #[s, x], argTypes := #[t, t'] }, type, pos, after, guard⟩) rfl hu hi hz hcond.1 hcond.2 hst (hg s) hs1 hus hsrc q1 q2 q3 q4 q5 q6 q7
                (fun t u W1 g1 g2 => hK _ _ t u W1 h g1 g2 (by simp [quiet]))
            · exact h.elim
          · cases hc
        split at hc
        · rename_i htt
          exact slices ⟨el, by rw [← htt]; exact hu⟩ hc
        · split at hc
          · rename_i hu2
            obtain ⟨i, hi, hc⟩ := Option.bind_eq_some_iff.1 hc
            obtain ⟨z, hz, hc⟩ := Option.bind_eq_some_iff.1 hc
            split at hc
            · rename_i hcond
              injection hc with hc; subst hc
              simp only [evB] at h
              split at h
              · rename_i k1 xs str hs1 hxs
                have hx := hg x
                rw [hxs] at hx; simp only [SV.Is] at hx
                have hsrc := src_of_str (P := P) (W := W) str hu2
                rw [← hx, ← hcond.1] at hsrc
                rw [← hcond.1] at hs1
                split at h
                · rename_i hk0
                  rw [hk0] at hsrc
                  exact app_zero (o := ⟨dst, .call { callee := .builtin .append, args := #[s, x], argTypes := #[t, t'] }, type, pos, after, guard⟩) rfl hu hi hst (hg s) hs1 h.1 (by
                    have : str.data.toList.length = 0 := by simpa using hk0
                    rw [List.length_eq_zero_iff.1 this]; rfl) hsrc
                    (hK _ _ [] _ _ h.2 (by simpa using hst) (by simpa using hg s) (by simp [quiet]))
                · rename_i hk0
                  obtain ⟨⟨q1, q2, q3, q4⟩, h⟩ := h
                  rw [← hcond.1] at q1
                  refine app_sound (o := ⟨dst, .call { callee := .builtin .append, args := #[s, x], argTypes := #[t, t'] }, type, pos, after, guard⟩) rfl hu hi hz (by omega) hcond.2 hst (hg s) hs1 (bytesC_is str) hsrc q1 (by rw [hcond.1]; omega) (by rw [hcond.1, bytesC_len]; omega) (by omega) (bytesC_one str) q3 q4 ?_
                  intro t u W1 g1 g2
                  rw [hcond.1] at g2
                  exact hK _ _ t u W1 h g1 g2 (by simp [quiet])
              · exact h.elim
            · cases hc
          · rename_i e2 hu2
            exact slices ⟨e2, hu2⟩ hc
          · cases hc
      · cases hc
    · cases hc
  case h_8 args argTypes =>
    split at hc
    · rename_i d x t t' hax hat
      obtain rfl : args = #[d, x] := by cases args; simp_all
      obtain rfl : argTypes = #[t, t'] := by cases argTypes; simp_all
      split at hc
      · rename_i el hu
        obtain ⟨i, hi, hc⟩ := Option.map_eq_some_iff.1 hc
        subst hc
        simp only [evB] at h
        split at h
        · rename_i k o n1 s1 k2 ys hd hsx
          have hd1 := hg d
          rw [hd] at hd1; simp only [SV.Is] at hd1
          obtain ⟨l, cap, hl, hcap, hroom, hdu⟩ := hd1
          split at h
          · rename_i ob hob
            obtain ⟨⟨hs1, hown, hfit, hyl, hone, hmm⟩, h⟩ := h
            subst hs1
            obtain ⟨p, cx, us, hxu, hus, hlu, hcell⟩ := sl_cells hst hsx (hg x)
            have hO := hst.obj k l ob hl hob
            obtain ⟨c, T, fr, g1, g2, g3, g4⟩ := hO.there hmm (.inl hown)
            have g5 := hO.fits
            have := g4 hown
            subst this
            have hmin : min k2 n1 * i.size ≤ us.length := by rw [hlu, hyl]; exact Nat.mul_le_mul_right _ (Nat.min_le_left _ _)
            have hmin2 : min k2 n1 * i.size ≤ n1 * i.size := Nat.mul_le_mul_right _ (Nat.min_le_right _ _)
            have hcs : (Builtin.firstCells i.size (min k2 n1) (.slice p k2 cx)).run P W = .ok (us.take (min k2 n1 * i.size)).toArray W := by
              rcases hcell with ⟨a1, rfl, hc1⟩ | ⟨rfl, rfl⟩
              · exact run_firstCells_some (P := P) W i.size (min k2 n1) a1 k2 cx _ (by simp; omega) (take_at (hc1 W (Same.refl _ _)))
              · simp [Builtin.firstCells]
            have h1c := IsL_one hus hone
            have htk : (us.take (min k2 n1 * i.size)).length = min k2 n1 * i.size := by simp; omega
            have hfit2 : l.off + o + 0 + (us.take (min k2 n1 * i.size)).length ≤ c.size := by rw [htk]; omega
            have hrun := run_storeCells_at P l.blk (l.off + o) T (us.take (min k2 n1 * i.size)) 0 c W g1 hfit2 (fun v hv => h1c v (List.mem_of_mem_take hv))
            simp only [Nat.add_zero] at hrun
            generalize hc' : (List.take (l.off + o) c.toList ++ us.take (min k2 n1 * i.size) ++ List.drop (l.off + o + (us.take (min k2 n1 * i.size)).length) c.toList).toArray = c' at hrun
            have hsz : c'.size = c.size := by rw [← hc']; simp only [List.size_toArray, List.length_append, List.length_take, List.length_drop, Array.length_toList]; omega
            have hty : SV.IsL r (ys.take (min k2 n1 * i.size)) (us.take (min k2 n1 * i.size)) := IsL_take _ hus
            have hyl2 : (ys.take (min k2 n1 * i.size)).length = min k2 n1 * i.size := by rw [List.length_take]; omega
            have hW1 := hst.put hl hob hown g1 c' hsz ⟨true, over ob.cells o (ys.take (min k2 n1 * i.size))⟩ (hO.put hown g1 g2 hsz (by rw [over_len (by omega)]; exact g5) ?_)
            · refine val_wp (o := ⟨dst, .call { callee := .builtin .copy, args := #[d, x], argTypes := #[t, t'] }, type, pos, after, guard⟩) (W1 := W.setRow l.blk c') (u := .int .i64 (min k2 n1 : Nat)) ?_ (hK _ _ [] _ _ h (by simpa using hW1) (by simp only [SV.Is]) (by simp [quiet]))
              have hmm : Nat.min k2 n1 = min k2 n1 := rfl
              simp [execOp, resolve, invoke, builtin, Builtin.copy_, hdu, hxu, run_underlying hu, Builtin.lenOf, sizeOf, typeInfo, hi, hmm, hcs, hrun, goInt]
            · rw [over_len (by omega), ← hc']
              simp only [List.toList_toArray]
              rw [real_over _ _ _ _ _ (by simp only [Array.length_toList]; omega) (by omega)]
              exact IsL_over _ g3 hty
          · exact h.elim
        · exact h.elim
      · cases hc
    · cases hc
  case h_9 t x y =>
    split at hc
    · rename_i el hu
      obtain ⟨i, hi, hc⟩ := Option.bind_eq_some_iff.1 hc
      obtain ⟨z, hz, hc⟩ := Option.bind_eq_some_iff.1 hc
      split at hc
      · rename_i hzs
        injection hc with hc; subst hc
        simp only [evB] at h
        split at h
        · rename_i k1 n1 k2 q1 hx hy
          have hx1 := hg x
          have hy1 := hg y
          rw [hx] at hx1; rw [hy] at hy1
          simp only [SV.Is] at hx1 hy1
          obtain ⟨⟨a1, a2, a3, a4⟩, h⟩ := h
          have hrun := run_make (P := P) W t el i z hu hi hz k1 k2 n1 q1 a1 a2 a3 a4
          have hb : Below W.heap.size W (W.alloc (.cells (madeCells z.cells (q1.toNat * i.size)) el)) := (Below.refl _ _).alloc (Nat.le_refl _) _
          have hle : n1.toNat * i.size ≤ q1.toNat * i.size := Nat.mul_le_mul_right _ (by omega)
          have hzl : (svCells z).length = i.size := by simp [svCells, hzs]
          have hfl : ∀ k, ((List.replicate k (svCells z)).flatten).length = k * i.size := fun k => by simp [hzl]
          have hcells : ∀ k, k * i.size ≤ q1.toNat * i.size → SV.IsL (r ++ [⟨W.heap.size, 0, q1.toNat * i.size⟩]) ((List.replicate k (svCells z)).flatten) ((madeCells z.cells (q1.toNat * i.size)).toList.take (k * i.size)) := by
            intro k hk
            refine IsL_of (by rw [List.length_take, Array.length_toList, size_madeCells, hfl]; exact Nat.min_eq_left hk) fun j c v hc hv => ?_
            have hjk : j < k * i.size := by
              have := (List.getElem?_eq_some_iff.1 hc).1
              rw [hfl] at this; exact this
            rw [List.getElem?_take, if_pos hjk] at hv
            have hi0 : 0 < i.size := by
              rcases Nat.eq_zero_or_pos i.size with h0 | h0
              · rw [h0] at hjk; omega
              · exact h0
            have hlt : j % i.size < z.cells.size := by rw [hzs]; exact Nat.mod_lt _ hi0
            have hv' : v = z.cells[j % i.size] := by
              simp only [madeCells, hzs] at hv
              rw [Array.getElem?_toList, Array.getElem?_map, Array.getElem?_range, if_pos (by omega)] at hv
              simp only [Option.map_some, Option.some.injEq] at hv
              rw [← hv, getElem!_pos z.cells _ hlt]
            have hget : ∀ (k : Nat) (j : Nat), j < k * i.size → ((List.replicate k (svCells z)).flatten)[j]? = (svCells z)[j % i.size]? := by
              intro k
              induction k with
              | zero => intro j hj; omega
              | succ k ih =>
                intro j hj
                rw [List.replicate_succ, List.flatten_cons]
                by_cases hj2 : j < i.size
                · rw [List.getElem?_append_left (by omega), Nat.mod_eq_of_lt hj2]
                · rw [List.getElem?_append_right (by omega), hzl, ih (j - i.size) (by rw [Nat.add_mul] at hj; omega)]
                  rw [← Nat.mod_eq_sub_mod (by omega)]
            rw [hget k j hjk] at hc
            have hc' : c = .v (z.cells[j % i.size]) := by
              simp only [svCells, List.getElem?_map, Array.getElem?_toList] at hc
              rw [Array.getElem?_eq_getElem hlt] at hc
              simp only [Option.map_some, Option.some.injEq] at hc
              exact hc.symm
            rw [hc', hv']
            simp only [SV.Is]
          have hSt : St base w0 (r ++ [⟨W.heap.size, 0, q1.toNat * i.size⟩]) (m ++ [⟨true, (List.replicate n1.toNat (svCells z)).flatten⟩]) (W.alloc (.cells (madeCells z.cells (q1.toNat * i.size)) el)) := by
            refine hst.add (Low.of_below hb) (Same.below hst hb) _ _ (ObjAt.new (T := el) (heap_alloc_new _ _) (by simp [size_madeCells]) (by rw [hfl]; exact hle) ?_ (hst.from_ _ hst.low.size)) rfl (Nat.le_refl _)
            simp only [List.drop_zero]
            rw [hfl]
            exact hcells _ hle
          refine val_wp (o := ⟨dst, .makeSlice t x y, type, pos, after, guard⟩) (W1 := W.alloc (.cells (madeCells z.cells (q1.toNat * i.size)) el)) (u := .slice (some ⟨W.heap.size, 0, none⟩) n1.toNat q1.toNat) ?_ (hK _ _ [⟨W.heap.size, 0, q1.toNat * i.size⟩] _ _ h hSt ?_ fun _ => Same.below hst hb)
          · simp [execOp, hx1, hy1, hrun]
          · simp only [SV.Is]
            exact ⟨⟨W.heap.size, 0, q1.toNat * i.size⟩, q1.toNat, by rw [← hst.len, List.getElem?_append_right (Nat.le_refl _)]; simp, by omega, by simp, by simp⟩
        · exact h.elim
      · cases hc
    · cases hc
  case h_10 t rr =>
    split at hc
    · rename_i kt et hu
      split at hc
      · obtain ⟨k, hk, hc⟩ := Option.map_eq_some_iff.1 hc
        subst hc
        simp only [evB] at h
        obtain ⟨q1, q2⟩ := hst.newMap k
        refine val_wp (o := ⟨dst, .makeMap t none, type, pos, after, guard⟩) (W1 := W.alloc (.map #[] 0)) (u := .map (some W.heap.size)) ?_ (hK _ _ _ _ _ h q1 ?_ fun _ => q2)
        · simp [execOp, Instr.makeMap]
        · simp only [SV.Is]
          exact ⟨⟨W.heap.size, 0, 0⟩, by rw [← hst.len, List.getElem?_append_right (Nat.le_refl _)]; simp, rfl⟩
      · rename_i kk nn
        obtain ⟨k, hk, hc⟩ := Option.map_eq_some_iff.1 hc
        subst hc
        simp only [evB] at h
        obtain ⟨q1, q2⟩ := hst.newMap k
        refine val_wp (o := ⟨dst, .makeMap t (some (.const (.int kk nn))), type, pos, after, guard⟩) (W1 := W.alloc (.map #[] 0)) (u := .map (some W.heap.size)) ?_ (hK _ _ _ _ _ h q1 ?_ fun _ => q2)
        · simp [execOp, Instr.makeMap, run_underlying hu, asInt, asIntOf, Act.eval]
        · simp only [SV.Is]
          exact ⟨⟨W.heap.size, 0, 0⟩, by rw [← hst.len, List.getElem?_append_right (Nat.le_refl _)]; simp, rfl⟩
      · cases hc
    · cases hc
  case h_11 t x i y =>
    exact upd_sound hK hst he hc h (fun W1 h1 => by simp [execOp, h1])
  case h_12 t x i y =>
    exact upd_sound hK hst he hc h (fun W1 h1 => by simp [execOp, h1])
  case h_13 t x i =>
    split at hc
    · rename_i kt et hu
      obtain ⟨k, hk, hc⟩ := Option.bind_eq_some_iff.1 hc
      obtain ⟨j, hj, hc⟩ := Option.bind_eq_some_iff.1 hc
      obtain ⟨z, hz, hc⟩ := Option.map_eq_some_iff.1 hc
      subst hc
      simp only [evB, evEnt] at h
      have hx := hg x
      have hi := hg i
      have hun := ktOf_ok hk
      split at h
      · rename_i kx key hxx hii
        rw [hxx] at hx; rw [hii] at hi
        simp only [SV.Is] at hx hi
        obtain ⟨l, hl, hxv⟩ := hx
        split at h
        · rename_i kt' ps hany
          obtain ⟨⟨hkt, hK1⟩, h⟩ := h
          subst hkt
          have hik := isK_ok hK1
          obtain ⟨ob, es, hob, hown, hb, hmi, hr0⟩ := anyAt_ok hst hl hany
          have hlen := hmi.len
          rcases upd_ok (r := r) hik (SV.of_is r z) hmi with ⟨f1, f2, f3, f4, f5⟩ | ⟨q, en, s2, f1, f2, f3, f4, f5, f6, f7⟩
          · simp only [f1] at h
            have hm2 : MapIs r kt'.desc 0 (ps ++ [(key, SV.of z)]) (es.push ⟨key, z, ps.length⟩).toList := by
              rw [← hlen]; simpa using f4
            have hSt := hst.setMap hl hob hown hb hr0 hm2
            refine val_wp (o := ⟨dst, .mapEntry t x i, type, pos, after, guard⟩) (W1 := { W with heap := W.heap.setIfInBounds l.blk (.map (es.push ⟨key, z, ps.length⟩) (ps ++ [(key, SV.of z)]).length) }) (u := .tuple #[z, goInt ps.length]) ?_ (hK _ _ [] _ _ h (by simpa using hSt) ?_ (by simp [quiet]))
            · have zrun : ∀ W' : World, (zeroValue et).run P W' = .ok z W' := fun W' => by simp [zeroValue, typeInfo, hj, hz]
              simp [execOp, hxv, hi, Instr.mapEntry, run_underlying hu, Go.MapKept.run_getObj_map hb, Go.MapKept.run_checkKey hun hik, Go.MapKept.run_findKey hun f2, zrun, Go.MapKept.run_setObj_map _ hb]
            · simp only [SV.Is, SV.IsL, List.append_nil]
              exact ⟨[z, goInt ps.length], rfl, z, _, rfl, SV.of_is r z, _, _, rfl, rfl, rfl⟩
          · simp only [Nat.zero_add] at f1 f2
            simp only [f1] at h
            have hjj : es[q]? = some en := by simpa using f3
            have hmod : (es.modify q fun e => { e with key := key }) = es := by
              apply Array.ext'
              rw [Array.toList_modify]
              exact modify_same fun e he => by
                rw [f3] at he
                injection he with he; subst he
                rw [← f4]
            have hSt := hst.setMap hl hob hown hb hr0 hmi
            have hborn : en.born = q := by
              have key2 : ∀ (ps : List (Value × SV)) (es : List MapEntry) (n q : Nat), MapIs r kt'.desc n ps es → es[q]? = some en → en.born = n + q := by
                intro ps
                induction ps with
                | nil => intro es n q h1 h2; simp only [MapIs] at h1; subst h1; simp at h2
                | cons p ps ih =>
                  intro es n q h1 h2
                  obtain ⟨e, t, rfl, _, _, h3, _, h5⟩ := h1
                  cases q with
                  | zero => simp at h2; subst h2; simpa using h3
                  | succ q => rw [ih t (n + 1) q h5 (by simpa using h2)]; omega
              simpa using key2 ps es.toList 0 q hmi f3
            refine val_wp (o := ⟨dst, .mapEntry t x i, type, pos, after, guard⟩) (W1 := { W with heap := W.heap.setIfInBounds l.blk (.map es ps.length) }) (u := .tuple #[en.val, goInt q]) ?_ (hK _ _ [] _ _ h (by simpa using hSt) ?_ (by simp [quiet]))
            · simp [execOp, hxv, hi, Instr.mapEntry, run_underlying hu, Go.MapKept.run_getObj_map hb, Go.MapKept.run_checkKey hun hik, Go.MapKept.run_findKey hun f2, hjj, f4, Go.MapKept.run_keyThatStays hik, Go.MapKept.run_setObj_map _ hb, hborn, hmod]
            · simp only [SV.Is, SV.IsL, List.append_nil]
              exact ⟨[en.val, goInt q], rfl, en.val, _, rfl, f5, _, _, rfl, rfl, rfl⟩
        · exact h.elim
      · exact h.elim
    · cases hc
  case h_14 t x j y =>
    injection hc with hc; subst hc
    simp only [evB, evEntSt] at h
    have hx := hg x
    have hj := hg j
    split at h
    · rename_i kx qq jj hxx hjj
      rw [hxx] at hx; rw [hjj] at hj
      simp only [SV.Is] at hx hj
      obtain ⟨l, hl, hxv⟩ := hx
      split at h
      · rename_i kt' ps hany
        obtain ⟨⟨h0, h1⟩, h⟩ := h
        obtain ⟨ob, es, hob, hown, hb, hmi, hr0⟩ := anyAt_ok hst hl hany
        obtain ⟨f1, f2, f3⟩ := set_ok (d := kt'.desc) (hg y) hmi jj.toNat (by omega)
        have hm2 : MapIs r kt'.desc 0 (setM (XO.get e (XO.of y)) jj.toNat ps) (es.modify jj.toNat fun e => { e with val := a.eval y }).toList := by
          rw [Array.toList_modify]; exact f1
        have hSt := hst.setMap hl hob hown hb hr0 hm2
        rw [f2] at hSt
        have f3' : es.findIdx? (fun e => (e.born : Int) == jj) = some jj.toNat := by
          rw [show es.findIdx? (fun e => (e.born : Int) == jj) = es.toList.findIdx? (fun e => (e.born : Int) == jj) by cases es; simp]
          rw [← f3]
          congr 1
          funext e
          congr 1
          omega
        refine skip_wp (o := ⟨dst, .entryStore t x j y, type, pos, after, guard⟩) (W1 := { W with heap := W.heap.setIfInBounds l.blk (.map (es.modify jj.toNat fun e => { e with val := a.eval y }) ps.length) }) ?_ (hK _ _ [] _ _ h (by simpa using hSt) (by simp only [SV.Is]; exact ⟨[], rfl, by simp [SV.IsL]⟩) (by simp [quiet]))
        simp [execOp, hxv, hj, Instr.entryStore, Go.MapKept.run_getObj_map hb, asInt, asIntOf, f3', Go.MapKept.run_setObj_map _ hb]
      · exact h.elim
    · exact h.elim
  case h_15 s d x =>
    split at hc
    · rename_i el hs hd
      split at hc
      · rename_i he
        injection hc with hc; subst hc
        simp only [evB] at h
        split at h
        · rename_i str hx
          have hx1 := hg x
          rw [hx] at hx1; simp only [SV.Is] at hx1
          have hrun := run_bytes_of_string (P := P) W s d el str hs hd he
          have hgc := grownCap_ge W str.size 0 el
          generalize hcp : grownCap W str.size 0 el = cp at hrun hgc
          have hb : Below W.heap.size W (W.drew.alloc (.cells (bytesRow str cp) el ((bytesRow str cp).size, (bytesRow str cp).size + 1))) := ((Below.refl _ _).drew).alloc (Nat.le_refl _) _
          have hbl : (bytesRow str cp).size = cp := by simp [bytesRow]; omega
          have hSt : St base w0 (r ++ [⟨W.heap.size, 0, cp⟩]) (m ++ [⟨false, bytesC str⟩]) (W.drew.alloc (.cells (bytesRow str cp) el ((bytesRow str cp).size, (bytesRow str cp).size + 1))) := by
            refine hst.add (Low.of_below hb) (Same.below hst hb) _ _ ⟨fun _ _ => ⟨_, el, _, heap_alloc_new _ _, by simp [hbl], ?_, by simp⟩, by simp only; rw [bytesC_len]; exact hgc, by simp, (Array.getElem?_eq_some_iff.1 (heap_alloc_new W.drew _)).1, trivial⟩ rfl (Nat.le_refl _)
            simp only [List.drop_zero, bytesC_len]
            have : (bytesRow str cp).toList.take str.size = str.data.toList.map fun x => Value.int .u8 x.toNat := by
              simp [bytesRow]
            rw [this]
            exact bytesC_is str
          refine val_wp (o := ⟨dst, .convert s d x, type, pos, after, guard⟩) (W1 := W.drew.alloc (.cells (bytesRow str cp) el ((bytesRow str cp).size, (bytesRow str cp).size + 1))) (u := .slice (some ⟨W.heap.size, 0, none⟩) str.size cp) ?_ (hK _ _ [⟨W.heap.size, 0, cp⟩] _ _ h hSt ?_ fun _ => Same.below hst hb)
          · simp [execOp, hx1, hrun]
          · simp only [SV.Is]
            exact ⟨⟨W.heap.size, 0, cp⟩, cp, by rw [← hst.len, List.getElem?_append_right (Nat.le_refl _)]; simp, hgc, by simp, by simp⟩
        · exact h.elim
      · cases hc
    · cases hc
  case h_16 => cases hc
end
end Go.Proofs.Ytcejgadbpahbmaa.Sz
end
section
namespace Go.Proofs.Ytcejgadbpahbmaa.Sz
open Go.RowKit
variable {P : Program} {n : Nat} {r : List Loc} {e : Env} {m : Mem} {a : Act} {base : Nat → Prop} {w0 W : World}
theorem app_soundk [Inp] {o : Oper} {Kr : Act → World → Prop} {Q : Exit → Act → World → Prop} {s x : Operand} {t t' el : TypeId} {i : TypeInfo} {z : Value} {S : SV}
    (ho : o.op = .call { callee := .builtin .append, args := #[s, x], argTypes := #[t, t'] }) (ht : P.underlying t = some (.slice el)) (hi : P.info? el = some i) (hz : i.zero = some z) (hsz : 0 < i.size) (hzs : z.cells.size = i.size)
    (hst : St base w0 r m W) (hs : S.Is r (a.eval s)) {k1 k2 : Nat} {xs ys : List SV} (h1 : slOf m i.size S = some (k1, xs)) {us : List Value} (hus : SV.IsL r ys us) (hsrc : SrcIs P W t' i.size (a.eval x) k2 us)
    {kk n1 : Nat} (hS : S = .row kk 0 n1 i.size) {ob : SObj} (hob : m[kk]? = some ob) (hown : ob.own = true) (hmm : ob.isM = false) (hfl : ob.cells.length = k1 * i.size) (hlx : xs.length = k1 * i.size) (hly : ys.length = k2 * i.size) (h0 : 0 < k2) (hone : ys.all SV.one = true) (hmax : k1 + k2 ≤ maxLen) (hby : (k1 + k2) * i.bytes ≤ 140737488355328)
    (hA : ∀ t u W1, St base w0 (r ++ t) (m ++ [⟨true, xs ++ ys⟩]) W1 → (SV.row m.length 0 (k1 + k2) i.size).Is (r ++ t) u → Kr (a.put o.dst u) W1)
    (hB : ∀ u W1, St base w0 r (m.set kk ⟨true, xs ++ ys⟩) W1 → (SV.row kk 0 (k1 + k2) i.size).Is r u → Kr (a.put o.dst u) W1) : o.wp P a W Kr Q := by
  have hsmall : k1 + k2 ≤ 9223372036854775807 := by simp only [maxLen] at hmax; omega
  have hlu := IsL_len hus
  have h1c : ∀ v ∈ us, v.oneCell' = true := IsL_one hus hone
  have grow : ∀ (olds : List Value) (cap : Nat), SV.IsL r xs olds → ∀ u W1, u = .slice (some ⟨W.heap.size, 0, none⟩) (k1 + k2) cap → k1 + k2 ≤ cap →
      W1 = W.drew.alloc (.cells ((olds ++ us) ++ (Builtin.zeroCells z.cells (cap - (k1 + k2))).toList).toArray el) →
      St base w0 (r ++ [⟨W.heap.size, 0, cap * i.size⟩]) (m ++ [⟨true, xs ++ ys⟩]) W1 ∧ (SV.row m.length 0 (k1 + k2) i.size).Is (r ++ [⟨W.heap.size, 0, cap * i.size⟩]) u := by
    intro olds cap holds u W1 hu hcap hW1
    have hlo := IsL_len holds
    have hd := hst.drew
    have hbelow : Low base W W1 := by rw [hW1]; exact Low.of_below (((Below.refl _ _).drew).alloc (Nat.le_refl _) _)
    have hsame : Same r W W1 := by rw [hW1]; exact Same.below hst (((Below.refl _ _).drew).alloc (Nat.le_refl _) _)
    have hkill : St base w0 r m W := hst
    have hmul : k1 * i.size + k2 * i.size = (k1 + k2) * i.size := (Nat.add_mul _ _ _).symm
    have hcm : (k1 + k2) * i.size ≤ cap * i.size := Nat.mul_le_mul_right _ hcap
    refine ⟨hkill.add hbelow hsame _ _ (ObjAt.new (T := el) (by rw [hW1]; exact heap_alloc_new _ _) ?_ (by simp; omega) ?_ (hst.from_ _ hst.low.size)) rfl (Nat.le_refl _), ?_⟩
    · simp [size_zeroCells, hzs, hlo, hlu, hlx, hly]
      rw [← Nat.add_assoc, hmul, ← Nat.add_mul]
      apply Nat.mul_le_mul_right
      omega
    · simp only [List.drop_zero]
      rw [List.take_append_of_le_length (by simp [hlo, hlu]), List.take_of_length_le (by simp [hlo, hlu])]
      exact SV.IsL.grow _ (IsL_append holds hus)
    · simp only [SV.Is]
      refine ⟨⟨W.heap.size, 0, cap * i.size⟩, cap, by rw [← hst.len, List.getElem?_append_right (Nat.le_refl _)]; simp, hcap, by simp, ?_⟩
      simpa using hu
  obtain ⟨p1, c1, olds, hsu0, holds0, hlo0, hcell0⟩ := sl_cells hst h1 hs
  have hold : (Builtin.firstCells i.size k1 (.slice p1 k1 c1)).run P W.drew = .ok olds.toArray W.drew := by
    refine firstCells_at (by rw [hlo0, hlx]) ?_
    rcases hcell0 with ⟨a1, rfl, hc⟩ | hn
    · exact .inl ⟨a1, rfl, hc _ (Same.drew_ hst)⟩
    · exact .inr hn
  have grown : c1 < k1 + k2 → o.wp P a W Kr Q := fun hlt => by
    have hr := run_app_grow (P := P) t t' o.type el i z ht hi hz p1 k1 c1 olds hold (a.eval x) k2 us hsrc hlt (by omega) (growslice_fits (by omega) hby)
    have hgc := grownCap_ge W (k1 + k2) c1 el
    obtain ⟨q1, q2⟩ := grow olds (grownCap W (k1 + k2) c1 el) holds0 _ _ rfl hgc rfl
    refine run_append_wp ho ?_ (hA _ _ _ q1 q2)
    rw [hsu0]
    exact hr
  subst hS
  have hn1 : n1 = k1 := by
    have hh := h1
    simp only [slOf, hob, if_true] at hh
    split at hh
    · injection hh with hh; injection hh
    · cases hh
  subst hn1
  simp only [SV.Is] at hs
  obtain ⟨l, cap, hl, hcap, hroom, hsu⟩ := hs
  by_cases hroom2 : n1 + k2 ≤ cap
  · -- in place
    have hO := hst.obj kk l ob hl hob
    obtain ⟨c, T, fr, g1, g2, g3, g4⟩ := hO.there hmm (.inl hown)
    have g5 := hO.fits
    have := g4 hown
    subst this
    have hmul : n1 * i.size + k2 * i.size = (n1 + k2) * i.size := (Nat.add_mul _ _ _).symm
    have hcm : (n1 + k2) * i.size ≤ cap * i.size := Nat.mul_le_mul_right _ hroom2
    have hfit : l.off + 0 + n1 * i.size + us.length ≤ c.size := by rw [hlu, hly]; omega
    have hr := run_app_room (P := P) t t' o.type el i ht hi l.blk (l.off + 0) n1 cap c T g1 (a.eval x) k2 us (by rw [hlu]; exact hly) hsrc h1c hroom2 hfit
    rw [← hsu] at hr
    generalize hc' : (List.take (l.off + 0 + n1 * i.size) c.toList ++ us ++ List.drop (l.off + 0 + n1 * i.size + us.length) c.toList).toArray = c' at hr
    have hsz : c'.size = c.size := by rw [← hc']; simp; omega
    have hadd : St base w0 r (m.set kk ⟨true, xs ++ ys⟩) (W.setRow l.blk c') := by
      refine hst.wr hl hob hown (low_setRow (hO.own hown) g1 hsz) (fun j _ hj => setRow_other _ _ _ _ hj) _ ⟨fun _ _ => ⟨c', T, (0, 0), setRow_heap _ _ _ _ _ _ g1, by omega, ?_, fun _ => rfl⟩, by simp only [List.length_append]; omega, fun _ => hO.own hown, by simpa using hO.lt, trivial⟩ rfl
      · have hlx' : (xs ++ ys).length = n1 * i.size + k2 * i.size := by simp [hlx, hly]
        rw [← hc']
        have hxs : xs = (ob.cells.drop 0).take (n1 * i.size) := by
          have hh := h1
          simp only [slOf, hob, if_true] at hh
          rw [if_pos (by omega)] at hh
          injection hh with hh; injection hh with _ hh
          exact hh.symm
        have e1 : ((List.take (l.off + 0 + n1 * i.size) c.toList ++ us ++ List.drop (l.off + 0 + n1 * i.size + us.length) c.toList).drop (l.off + 0)).take (xs ++ ys).length = ((c.toList.drop (l.off + 0)).take (n1 * i.size)) ++ us := by
          rw [hlx']
          apply List.ext_getElem?
          intro j
          simp only [List.getElem?_take, List.getElem?_drop, List.getElem?_append, List.length_append, List.length_take, List.length_drop, Array.length_toList]
          have hus' : us.length = k2 * i.size := by rw [hlu, hly]
          by_cases j1 : j < n1 * i.size
          · repeat (first | rw [if_pos (by omega)] | rw [if_neg (by omega)])
          · by_cases j2 : j < n1 * i.size + k2 * i.size
            · repeat (first | rw [if_pos (by omega)] | rw [if_neg (by omega)])
              congr 1
              omega
            · repeat (first | rw [if_pos (by omega)] | rw [if_neg (by omega)])
              rw [List.getElem?_eq_none (by omega)]
        simp only [List.toList_toArray]
        have e1' := e1
        simp only [Nat.add_zero] at e1' ⊢
        rw [e1']
        refine IsL_append ?_ hus
        rw [hxs]
        have := IsL_take (n1 * i.size) (IsL_drop 0 g3)
        rw [List.drop_take, List.drop_drop, List.take_take, Nat.min_eq_left (by omega)] at this
        exact this
    refine run_append_wp ho hr (hB _ _ hadd ?_)
    simp only [SV.Is]
    exact ⟨l, cap, hl, hroom2, by omega, by simp [hsu]⟩
  · -- grown
    refine grown ?_
    rw [hsu] at hsu0
    injection hsu0 with e1 e2 e3
    omega
def XB.kp : XB → XB
  | .app s b x y => if b = 24 then .appk s b x y else .app s b x y
  | x => x
def compBk (P : Program) (kp : Bool) (o : Op) : Option XB := if kp = true then (compB P o).map XB.kp else compB P o
def XB.isApp : XB → Bool
  | .app _ b _ _ => b == 24
  | _ => false
theorem XB.kp_not {x : XB} (h : x.isApp = false) : x.kp = x := by cases x <;> first | rfl | (simp [XB.isApp] at h; simp [XB.kp, h])
theorem XB.is_app {x : XB} (h : x.isApp = true) : ∃ s y z, x = .app s 24 y z := by
  cases x <;> simp [XB.isApp] at h
  subst h
  exact ⟨_, _, _, rfl⟩
set_option maxHeartbeats 4000000 in
theorem compB_app_inv {op : Op} {sz b : Nat} {xo yo : XO} (hc : compB P op = some (.app sz b xo yo)) :
    ∃ s x t t' el i z, op = .call { callee := .builtin .append, args := #[s, x], argTypes := #[t, t'] } ∧ P.underlying t = some (.slice el) ∧ P.info? el = some i ∧ i.zero = some z ∧ 0 < i.size ∧ z.cells.size = i.size ∧ sz = i.size ∧ b = i.bytes ∧ xo = XO.of s ∧ yo = XO.of x ∧ ∃ e2, P.underlying t' = some (.slice e2) := by
  unfold compB at hc
  split at hc
  · injection hc with hc; cases hc
  · split at hc
    case h_7 args argTypes _ =>
      split at hc
      · rename_i s x t t' hax hat
        obtain rfl : args = #[s, x] := by cases args; simp_all
        obtain rfl : argTypes = #[t, t'] := by cases argTypes; simp_all
        split at hc
        · rename_i el hu
          have slices : (∃ e2, P.underlying t' = some (.slice e2)) → ((P.info? el).bind fun i => i.zero.bind fun z => if 0 < i.size ∧ z.cells.size = i.size then some (XB.app i.size i.bytes (XO.of s) (XO.of x)) else none) = some (.app sz b xo yo) → ∃ s' x' u u' el i z, Op.call { callee := .builtin .append, args := #[s, x], argTypes := #[t, t'] } = .call { callee := .builtin .append, args := #[s', x'], argTypes := #[u, u'] } ∧ P.underlying u = some (.slice el) ∧ P.info? el = some i ∧ i.zero = some z ∧ 0 < i.size ∧ z.cells.size = i.size ∧ sz = i.size ∧ b = i.bytes ∧ xo = XO.of s' ∧ yo = XO.of x' ∧ ∃ e2, P.underlying u' = some (.slice e2) := fun h2 hc => by
            obtain ⟨i, hi, hc⟩ := Option.bind_eq_some_iff.1 hc
            obtain ⟨z, hz, hc⟩ := Option.bind_eq_some_iff.1 hc
            split at hc
            · rename_i hcond
              injection hc with hc
              injection hc with q1 q2 q3 q4
              exact ⟨s, x, t, t', el, i, z, rfl, hu, hi, hz, hcond.1, hcond.2, q1.symm, q2.symm, q3.symm, q4.symm, h2⟩
            · cases hc
          split at hc
          · rename_i htt
            exact slices ⟨el, by rw [← htt]; exact hu⟩ hc
          · split at hc
            · simp only [Option.bind_eq_some_iff] at hc
              obtain ⟨i, _, z, _, hc⟩ := hc
              split at hc
              · injection hc with hc; cases hc
              · cases hc
            · rename_i e2 hu2
              exact slices ⟨e2, hu2⟩ hc
            · cases hc
        · cases hc
      · cases hc
    all_goals
      repeat' (first
        | (cases hc; done)
        | (rw [Option.bind_eq_some_iff] at hc; obtain ⟨_, _, hc⟩ := hc)
        | (rw [Option.map_eq_some_iff] at hc; obtain ⟨_, _, hc⟩ := hc)
        | (split at hc))
theorem sl_lenz [Inp] {z k2 : Nat} {ys : List SV} {Y : SV} (hs2 : slOf m z Y = some (k2, ys)) (h0 : k2 = 0) : ys.length = 0 * z := by
  subst h0
  unfold slOf at hs2
  split at hs2
  · split at hs2
    · split at hs2
      · split at hs2
        · injection hs2 with hs2; injection hs2 with q1 q2
          rw [← q2, q1]; simp
        · cases hs2
      · cases hs2
    · cases hs2
  · obtain ⟨us2, hus2, hs2⟩ := Option.map_eq_some_iff.1 hs2
    injection hs2 with q1 q2
    rw [← q2]; simp [(inpL_some hus2).1, q1]
  · injection hs2 with hs2; injection hs2 with q1 q2
    rw [← q2]; simp
  · injection hs2 with hs2; injection hs2 with q1 q2
    rw [← q2]; simp
  · cases hs2
theorem compBk_sound [Inp] {kp : Bool} {G : List CEntry} (hG : GOk P G) {o : Oper} {xb : XB} {K : SV → Mem → Prop} (hc : compBk P kp o.op = some xb) (h : evB G xb e m K) (hst : St base w0 r m W) (he : EnvIs n r e a.tmps)
    {Kr : Act → World → Prop} {Q : Exit → Act → World → Prop} (hK : ∀ s m' t u W1, K s m' → St base w0 (r ++ t) m' W1 → s.Is (r ++ t) u → (quiet G e xb = true → Same r W W1) → Kr (a.put o.dst u) W1) : o.wp P a W Kr Q := by
  unfold compBk at hc
  split at hc
  · obtain ⟨x0, hx0, rfl⟩ := Option.map_eq_some_iff.1 hc
    cases ha : x0.isApp with
    | false =>
      rw [XB.kp_not ha] at h hK
      exact compB_sound hG hx0 h hst he hK
    | true =>
      obtain ⟨sz, xo, yo, rfl⟩ := XB.is_app ha
      obtain ⟨s, x, t, t', el, i, z, hop, hu, hi, hz, q1, q2, rfl, hb24, rfl, rfl, e2, hu2⟩ := compB_app_inv hx0
      have hg := he.get
      simp only [XB.kp, if_true, evB] at h
      split at h
      · rename_i k1 xs k2 ys hs1 hs2
        split at h
        · rename_i hk0
          obtain ⟨us, hus, hsrc, _⟩ := src_of_sl (P := P) hst hu2 hs2 (hg x) (by rw [sl_lenz hs2 hk0, hk0])
          have hnil : us = [] := by
            have := IsL_len hus
            rw [sl_lenz hs2 hk0] at this
            exact List.length_eq_zero_iff.1 (by omega)
          subst hk0
          exact app_zero hop hu hi hst (hg s) hs1 h.1 hnil hsrc (hK _ _ [] _ _ h.2 (by simpa using hst) (by simpa using hg s) (by simp [quiet, XB.kp]))
        · split at h
          · rename_i kk oo n1 sz1 hS
            split at h
            · rename_i ob hob
              obtain ⟨⟨rfl, rfl, p3, p4, p5, p6, p7, p8, p9, pa, pb⟩, hA, hB⟩ := h
              obtain ⟨us, hus, hsrc, _⟩ := src_of_sl (P := P) hst hu2 hs2 (hg x) p7
              exact app_soundk hop hu hi hz q1 q2 hst (hg s) hs1 hus hsrc hS hob p3 p4 p5 p6 p7 p8 p9 pa (by rw [← hb24]; exact pb)
                (fun t u W1 g1 g2 => hK _ _ t u W1 hA g1 g2 (by simp [quiet, XB.kp])) (fun u W1 g1 g2 => hK _ _ [] u W1 hB (by simpa using g1) (by simpa using g2) (by simp [quiet, XB.kp]))
            · exact h.elim
          · exact h.elim
      · exact h.elim
  · exact compB_sound hG hc h hst he hK
end Go.Proofs.Ytcejgadbpahbmaa.Sz
end
section
namespace Go.Proofs.Ytcejgadbpahbmaa.Sz
open Go.RowKit
structure XI where
  dst : Option Nat
  grd : Option (Nat × Bool)
  op : XB
inductive XT where
  | done
  | seq (i : XI) (rest : XT)
  | take (i : XI) (rest : XT)
  | act (q : Bool) (alts : List (XI × XT))
  | alt (qs : List Bool) (alts : List (XI × XT))
def evI [Inp] (G : List CEntry) (i : XI) (e : Env) (m : Mem) (K : Env → Mem → Prop) : Prop :=
  match i.grd with
  | none => evB G i.op e m fun s m' => K (putO e i.dst s) m'
  | some (t, want) =>
    match e t with
    | .v (.bool b) => if b = want then evB G i.op (put e t (.v (.bool want))) m fun s m' => K (putO (put e t (.v (.bool want))) i.dst s) m' else K (putO (put e t (.v (.bool !want))) i.dst (.tup [])) m
    | .tup [] => K (putO e i.dst (.tup [])) m
    | _ => False
mutual
def evT [Inp] (G : List CEntry) : XT → Env → Mem → (Env → Mem → Prop) → Prop
  | .done, e, m, K => K e m
  | .seq i rest, e, m, K => evI G i e m fun e m => evT G rest e m K
  | .take i rest, e, m, K => evI G i e m fun e m => evT G rest e m K
  | .act q alts, e, m, K => evAlts G q alts e m K
  | .alt qs alts, e, m, K => evAlt2 G alts qs e m K
def evAlts [Inp] (G : List CEntry) (q : Bool) : List (XI × XT) → Env → Mem → (Env → Mem → Prop) → Prop
  | [], _, _, _ => True
  | (i, t) :: rest, e, m, K => ((q = true → quiet G e i.op = true) ∧ evI G i e m fun e m => evT G t e m K) ∧ evAlts G q rest e m K
def evAlt2 [Inp] (G : List CEntry) : List (XI × XT) → List Bool → Env → Mem → (Env → Mem → Prop) → Prop
  | [], _, _, _, _ => True
  | (i, t) :: rest, qs, e, m, K => ((qs.headD false = true → quiet G e i.op = true) ∧ evI G i e m fun e m => evT G t e m K) ∧ evAlt2 G rest qs.tail e m K
end
def okDst (N : Nat) : Option Nat → Bool
  | none => true
  | some d => decide (d < N)
def compG (ops : Array Oper) : Option (Nat × Bool) → Option (Option (Nat × Bool))
  | none => some none
  | some (j, want) => ((ops[j]?).bind (·.dst)).map fun t => some (t, want)
def compI (P : Program) (kp : Bool) (N : Nat) (ops : Array Oper) (o : Oper) : Option XI :=
  if okDst N o.dst then (compG ops o.guard).bind fun g => (compBk P kp o.op).map fun x => ⟨o.dst, g, x⟩ else none
def lin (P : Program) (kp : Bool) (N : Nat) (ops : Array Oper) : List Oper → Option XT
  | [] => some .done
  | o :: l => (compI P kp N ops o).bind fun i => (lin P kp N ops l).map (.seq i)
def early (P : Program) (q : Bool) (o : Oper) : Bool :=
  match compA P o.op with
  | some x => q || !x.mem
  | none => false
def expl (P : Program) (kp : Bool) (N : Nat) (q : Bool) (ops : Array Oper) : Nat → Array Bool → Option XT
  | 0, listed => if Region.ready .any ops listed = [] then some .done else none
  | fuel + 1, listed =>
    let rs := Region.ready .any ops listed
    if rs = [] then some .done else
    match rs.find? fun i => ((ops[i]?).map (early P q)).getD false && Region.free .any ops listed i with
    | some i => (ops[i]?).bind fun o => (compI P kp N ops o).bind fun x => (expl P kp N q ops fuel (listed.setIfInBounds i true)).map (.take x)
    | none => (rs.mapM fun i => (ops[i]?).bind fun o => (compI P kp N ops o).bind fun x => (expl P kp N q ops fuel (listed.setIfInBounds i true)).map fun t => (x, t)).map (.act q)
section
variable {P : Program} {kp : Bool} {N : Nat} {r : List Loc} {e : Env} {m : Mem} {a : Act} {base : Nat → Prop} {w0 W : World} {ops : Array Oper}
theorem yielded_eq {j : Nat} {t : Nat} {o : Oper} (hj : (ops[j]?).bind (·.dst) = some t) (he : EnvIs N r e a.tmps) :
    (∀ b, e t = .v (.bool b) → yielded ops a.tmps j = some b) ∧ (e t = .tup [] → yielded ops a.tmps j = none) := by
  have hi := he.is t
  have hget : ∀ u, a.tmps.getD t undef = u → (∀ b, u = .bool b → yielded ops a.tmps j = some b) ∧ (u = undef → yielded ops a.tmps j = none) := by
    intro u hu
    unfold yielded
    rw [hj]
    simp only [Option.bind_some]
    constructor
    · rintro b rfl
      have : a.tmps[t]? = some (.bool b) := by
        rw [Array.getD_eq_getD_getElem?] at hu
        cases h : a.tmps[t]? with
        | none => rw [h] at hu; simp [undef] at hu
        | some x => rw [h] at hu; simp at hu; rw [hu]
      rw [this]
    · rintro rfl
      cases h : a.tmps[t]? with
      | none => rfl
      | some x =>
        rw [Array.getD_eq_getD_getElem?, h] at hu
        simp at hu
        rw [hu]
        simp [undef]
  obtain ⟨h1, h2⟩ := hget _ rfl
  constructor
  · intro b hb
    rw [hb] at hi
    simp only [SV.Is] at hi
    exact h1 b hi
  · intro hb
    rw [hb] at hi
    simp only [SV.Is, SV.IsL] at hi
    obtain ⟨us, h3, rfl⟩ := hi
    exact h2 h3
theorem EnvIs.same {e : Env} {ts : Array Value} {t : Nat} {s : SV} (h : EnvIs N r e ts) (ht : e t = s) : EnvIs N r (put e t s) ts := ⟨h.size, fun x => by
  unfold put
  split
  · rename_i hx; subst hx; rw [← ht]; exact h.is x
  · exact h.is x⟩
theorem undef_is (r : List Loc) : (SV.tup []).Is r undef := by simp only [SV.Is]; exact ⟨[], rfl, by simp [SV.IsL]⟩
theorem evI_sound [Inp] {G : List CEntry} (hG : GOk P G) {Q : Exit → Act → World → Prop} {i : Nat} {o : Oper} {xi : XI} {K : Env → Mem → Prop} (ho : ops[i]? = some o) (hc : compI P kp N ops o = some xi) (h : evI G xi e m K) (hst : St base w0 r m W) (he : EnvIs N r e a.tmps)
    {Kr : Act → World → Prop} (hK : ∀ e' m' t a' W1, K e' m' → St base w0 (r ++ t) m' W1 → EnvIs N (r ++ t) e' a'.tmps → a'.defers = a.defers → (quiet G e xi.op = true → Same r W W1) → Kr a' W1) : wpOp P ops Q i Kr a W := by
  unfold compI at hc
  split at hc
  · rename_i hd
    obtain ⟨g, hg, hc⟩ := Option.bind_eq_some_iff.1 hc
    obtain ⟨x, hx, hc⟩ := Option.map_eq_some_iff.1 hc
    subst hc
    have hdst : ∀ y, o.dst = some y → y < N := by
      intro y hy; rw [hy] at hd; simpa [okDst] using hd
    have put_defers : ∀ u, (a.put o.dst u).defers = a.defers := fun u => by cases o.dst <;> rfl
    have run : ∀ e', (quiet G e x = true → quiet G e' x = true) → EnvIs N r e' a.tmps → evB G x e' m (fun s m' => K (putO e' o.dst s) m') → o.wp P a W Kr Q := fun e' hqe he hh =>
      compBk_sound hG hx hh hst he (fun s m' t u W1 h1 h2 h3 h4 => hK _ _ t _ W1 h1 h2 ((he.grow t).putO o.dst hdst h3) (put_defers u) (fun hq => h4 (hqe hq)))
    have skip : ∀ e', EnvIs N r e' a.tmps → K (putO e' o.dst (.tup [])) m → Kr (a.put o.dst undef) W := fun e' he hh =>
      hK _ _ [] _ W hh (by simpa using hst) (by simpa using he.putO o.dst hdst (undef_is r)) (put_defers _) (fun _ => Same.refl _ _)
    unfold wpOp
    simp only [ho]
    unfold evI at h
    cases hgd : o.guard with
    | none =>
      rw [hgd] at hg
      simp only [compG] at hg
      injection hg with hg; subst hg
      simp only at h
      simp only [Region.wanted, hgd, if_true]
      exact .inl (run e id he h)
    | some jw =>
      obtain ⟨j, want⟩ := jw
      rw [hgd] at hg
      simp only [compG] at hg
      obtain ⟨t, ht, hg⟩ := Option.map_eq_some_iff.1 hg
      subst hg
      obtain ⟨y1, y2⟩ := yielded_eq (o := o) ht he
      simp only at h
      simp only [Region.wanted, hgd]
      split at h
      · rename_i b hb
        rw [y1 b hb]
        by_cases hbw : b = want
        · subst hbw
          simp only [BEq.rfl, if_true]
          rw [if_pos rfl] at h
          have hsame : put e t (.v (.bool b)) = e := by
            funext y
            unfold put
            split
            · rename_i hy; subst hy; exact hb.symm
            · rfl
          rw [hsame] at h
          exact .inl (run e id he h)
        · have : (some b == some want) = false := by cases b <;> cases want <;> simp_all
          rw [this]
          simp only [Bool.false_eq_true, if_false]
          rw [if_neg hbw] at h
          exact skip _ (he.same (by rw [hb]; cases b <;> cases want <;> simp_all)) h
      · rename_i hb
        rw [y2 hb]
        have : ((none : Option Bool) == some want) = false := rfl
        rw [this]
        simp only [Bool.false_eq_true, if_false]
        exact skip e he h
      · exact h.elim
  · cases hc
theorem lin_sound [Inp] {G : List CEntry} (hG : GOk P G) {Q : Exit → Act → World → Prop} {K : Env → Mem → Prop} : ∀ (l : List Oper) (k : Nat) {t : XT} {e : Env} {m : Mem} {r : List Loc} {a : Act} {W : World}, (∀ j o, l[j]? = some o → ops[k + j]? = some o) → lin P kp N ops l = some t → evT G t e m K → St base w0 r m W → EnvIs N r e a.tmps →
    (∀ e' m' r' a' W1, K e' m' → St base w0 r' m' W1 → EnvIs N r' e' a'.tmps → a'.defers = a.defers → Kp r r' → Q .normal a' W1) → wpOps P ops Q (List.range' k l.length) a W
  | [], k, t, e, m, r, a, W, hl, hc, h, hst, he, hK => by
    simp only [lin] at hc
    injection hc with hc; subst hc
    simp only [evT] at h
    simp only [List.length_nil, List.range'_zero, wpOps]
    exact hK _ _ _ _ _ h hst he rfl (Kp.refl _)
  | o :: l, k, t, e, m, r, a, W, hl, hc, h, hst, he, hK => by
    simp only [lin] at hc
    obtain ⟨xi, hxi, hc⟩ := Option.bind_eq_some_iff.1 hc
    obtain ⟨t', ht', hc⟩ := Option.map_eq_some_iff.1 hc
    subst hc
    simp only [evT] at h
    rw [List.length_cons, List.range'_succ, wpOps_cons]
    refine evI_sound hG (hl 0 o rfl) hxi h hst he (fun e' m' tt a' W1 h1 h2 h3 h4 _ => ?_)
    refine lin_sound hG l (k + 1) (fun j o' hj => by have := hl (j + 1) o' (by simpa using hj); rwa [show k + (j + 1) = k + 1 + j by omega] at this) ht' h1 h2 h3 (fun e' m' r' a'' W2 g1 g2 g3 g4 g5 => hK e' m' r' a'' W2 g1 g2 g3 (g4.trans h4) ((Kp.ext _ _).trans g5))
theorem wpAnyH_mono {Q : Exit → Act → World → Prop} {md : Region.Mode} {S S' : World → Prop} (hS : ∀ w, S' w → S w) : ∀ (fuel : Nat) (listed : Array Bool) (a : Act) (w : World), wpAnyH P md ops Q S' fuel listed a w → wpAnyH P md ops Q S fuel listed a w
  | 0, _, _, _, h => h
  | fuel + 1, _, _, _, h => ⟨h.1, fun i hi => wpOp_mono (fun a' w' h' => ⟨hS _ h'.1, wpAnyH_mono hS fuel _ a' w' h'.2⟩) (h.2 i hi)⟩
theorem compB_of_A {o : Op} {x : XA} (h : compA P o = some x) : compBk P kp o = some (.ofA x) := by
  have e : compB P o = some (.ofA x) := by unfold compB; rw [h]
  unfold compBk
  rw [e]
  split <;> rfl
theorem evI_yields [Inp] {G : List CEntry} {q : Bool} {o : Oper} {xi : XI} {K : Env → Mem → Prop} (hc : compI P kp N ops o = some xi) (hq : early P q o = true) (h : evI G xi e m K) (hst : St base w0 r m W) (he : EnvIs N r e a.tmps) :
    (∀ y, o.dst = some y → y < N) ∧ ∃ s u, K (putO e o.dst s) m ∧ s.Is r u ∧ YieldsIf P ops (fun W' => q = true → Same r W W') o u a := by
  unfold early at hq
  split at hq
  · rename_i xa hxa
    unfold compI at hc
    split at hc
    · rename_i hd
      obtain ⟨g, hg, hc⟩ := Option.bind_eq_some_iff.1 hc
      obtain ⟨x, hx, hc⟩ := Option.map_eq_some_iff.1 hc
      subst hc
      rw [compB_of_A hxa] at hx
      injection hx with hx
      subst hx
      refine ⟨fun y hy => by rw [hy] at hd; simpa [okDst] using hd, ?_⟩
      have run : evB G (.ofA xa) e m (fun s m' => K (putO e o.dst s) m') → Region.wanted o (yielded ops a.tmps) = true → ∃ s u, K (putO e o.dst s) m ∧ s.Is r u ∧ YieldsIf P ops (fun W' => q = true → Same r W W') o u a := by
        intro hh hw
        simp only [evB] at hh
        obtain ⟨s, u, h1, h2, h3⟩ := compA_sound hxa hh hst he
        refine ⟨s, u, h1, h2, .inl ⟨hw, fun W' hS => h3 W' fun hm => hS ?_⟩⟩
        rw [hm] at hq
        simpa using hq
      have skip : K (putO e o.dst (.tup [])) m → Region.wanted o (yielded ops a.tmps) = false → ∃ s u, K (putO e o.dst s) m ∧ s.Is r u ∧ YieldsIf P ops (fun W' => q = true → Same r W W') o u a :=
        fun hh hw => ⟨_, _, hh, undef_is r, .inr ⟨hw, rfl⟩⟩
      unfold evI at h
      cases hgd : o.guard with
      | none =>
        rw [hgd] at hg
        simp only [compG] at hg
        injection hg with hg; subst hg
        exact run h (by simp [Region.wanted, hgd])
      | some jw =>
        obtain ⟨j, want⟩ := jw
        rw [hgd] at hg
        simp only [compG] at hg
        obtain ⟨t, ht, hg⟩ := Option.map_eq_some_iff.1 hg
        subst hg
        obtain ⟨y1, y2⟩ := yielded_eq (o := o) ht he
        simp only at h
        split at h
        · rename_i b hb
          by_cases hbw : b = want
          · subst hbw
            rw [if_pos rfl] at h
            have hsame : put e t (.v (.bool b)) = e := by
              funext y
              unfold put
              split
              · rename_i hy; subst hy; exact hb.symm
              · rfl
            rw [hsame] at h
            exact run h (by simp [Region.wanted, hgd, y1 b hb])
          · rw [if_neg hbw] at h
            have hsame : put e t (.v (.bool !want)) = e := by
              funext y
              unfold put
              split
              · rename_i hy; subst hy; rw [hb]; cases b <;> cases want <;> simp_all
              · rfl
            rw [hsame] at h
            refine skip h ?_
            simp only [Region.wanted, hgd, y1 b hb]
            cases b <;> cases want <;> simp_all
        · rename_i hb
          exact skip h (by simp [Region.wanted, hgd, y2 hb])
        · exact h.elim
    · cases hc
  · cases hq
theorem evAlts_mem [Inp] {G : List CEntry} {q : Bool} {K : Env → Mem → Prop} : ∀ {alts : List (XI × XT)}, evAlts G q alts e m K → ∀ x ∈ alts, (q = true → quiet G e x.1.op = true) ∧ evI G x.1 e m fun e m => evT G x.2 e m K
  | [], _, x, hx => by simp at hx
  | (i, t) :: rest, h, x, hx => by
    simp only [evAlts] at h
    rcases List.mem_cons.1 hx with rfl | hx
    · exact h.1
    · exact evAlts_mem h.2 x hx
theorem mapM_mem {α β : Type} {f : α → Option β} : ∀ {l : List α} {ys : List β}, l.mapM f = some ys → ∀ x ∈ l, ∃ y ∈ ys, f x = some y
  | [], ys, h, x, hx => by simp at hx
  | a :: l, ys, h, x, hx => by
    rw [List.mapM_cons] at h
    obtain ⟨b, hb, h⟩ := Option.bind_eq_some_iff.1 h
    obtain ⟨bs, hbs, h⟩ := Option.bind_eq_some_iff.1 h
    simp at h
    subst h
    rcases List.mem_cons.1 hx with rfl | hx
    · exact ⟨b, by simp, hb⟩
    · obtain ⟨y, hy, hf⟩ := mapM_mem hbs x hx
      exact ⟨y, by simp [hy], hf⟩
theorem expl_sound [Inp] {G : List CEntry} (hG : GOk P G) (q : Bool) (hsel : Region.noSelect ops = true) {Q : Exit → Act → World → Prop} (hQ : ∀ c a w, ¬ Q (.panic c) a w) {K : Env → Mem → Prop} :
    ∀ (fuel : Nat) {listed : Array Bool} {t : XT} {e : Env} {m : Mem} {r : List Loc} {a : Act} {W : World} {S : World → Prop}, expl P kp N q ops fuel listed = some t → evT G t e m K → St base w0 r m W → EnvIs N r e a.tmps → (∀ W', (q = true → Same r W W') → S W') →
    (∀ e' m' r' a' W1, K e' m' → St base w0 r' m' W1 → EnvIs N r' e' a'.tmps → a'.defers = a.defers → Kp r r' → Q .normal a' W1) → wpAnyH P .any ops Q S fuel listed a W
  | 0, listed, t, e, m, r, a, W, S, hc, h, hst, he, hS, hK => by
    simp only [expl] at hc
    split at hc
    · rename_i hr
      injection hc with hc; subst hc
      simp only [evT] at h
      exact ⟨hr, hK _ _ _ _ _ h hst he rfl (Kp.refl _)⟩
    · cases hc
  | fuel + 1, listed, t, e, m, r, a, W, S, hc, h, hst, he, hS, hK => by
    simp only [expl] at hc
    split at hc
    · rename_i hr
      injection hc with hc; subst hc
      simp only [evT] at h
      exact wpAnyH_done hr (hK _ _ _ _ _ h hst he rfl (Kp.refl _)) _
    rename_i hne
    split at hc
    · rename_i i hfind
      obtain ⟨o, ho, hc⟩ := Option.bind_eq_some_iff.1 hc
      obtain ⟨x, hx, hc⟩ := Option.bind_eq_some_iff.1 hc
      obtain ⟨t', ht', hc⟩ := Option.map_eq_some_iff.1 hc
      subst hc
      simp only [evT] at h
      have hp := List.find?_some hfind
      have hmem := List.mem_of_find?_eq_some hfind
      rw [ho] at hp
      simp only [Option.map_some, Option.getD_some, Bool.and_eq_true] at hp
      obtain ⟨hd, s, u, h1, h2, h3⟩ := evI_yields (ops := ops) hx hp.1 h hst he
      refine wpAnyH_mono (S' := fun W' => q = true → Same r W W') hS _ _ _ _ ?_
      refine wpAnyH_take ho hsel hp.2 (by simpa using hmem) (fun c a w hh => (hQ c _ w hh).elim) h3 (fun _ => Same.refl _ _) ?_
      refine expl_sound hG q hsel hQ fuel ht' h1 hst (he.putO o.dst hd h2) (fun W' hW => hW) (fun e' m' r' a' W1 g1 g2 g3 g4 g5 => hK e' m' r' a' W1 g1 g2 g3 (g4.trans (by cases o.dst <;> rfl)) g5)
    · rename_i hfind
      obtain ⟨alts, halts, hc⟩ := Option.map_eq_some_iff.1 hc
      subst hc
      simp only [evT] at h
      refine wpAnyH_all rfl hne (fun i hi => ?_)
      obtain ⟨y, hy, hf⟩ := mapM_mem halts i hi
      obtain ⟨o, ho, hf⟩ := Option.bind_eq_some_iff.1 hf
      obtain ⟨x, hx, hf⟩ := Option.bind_eq_some_iff.1 hf
      obtain ⟨t', ht', hf⟩ := Option.map_eq_some_iff.1 hf
      subst hf
      obtain ⟨hqu, hev⟩ := evAlts_mem h _ hy
      refine evI_sound hG ho hx hev hst he (fun e' m' tt a' W1 h1 h2 h3 h4 h5 => ?_)
      refine ⟨hS W1 (fun hq => h5 (hqu hq)), ?_⟩
      refine expl_sound hG q hsel hQ fuel ht' h1 h2 h3 (fun W' hW => hS W' fun hq => (h5 (hqu hq)).trans (hW hq).part) (fun e' m' r' a'' W2 g1 g2 g3 g4 g5 => hK e' m' r' a'' W2 g1 g2 g3 (g4.trans h4) ((Kp.ext _ _).trans g5))
theorem getD_no {l : Array Bool} {k : Nat} (h1 : l.getD k false = true) (h0 : l.getD k true = false) : False := by
  rcases Nat.lt_or_ge k l.size with h' | h'
  · simp [h'] at h0 h1; rw [h0] at h1; cases h1
  · simp [Array.getElem?_eq_none h'] at h1
inductive Behind (ops : Array Oper) (listed : Array Bool) (i : Nat) : Nat → Prop where
  | here {j : Nat} {o : Oper} {e : Edge} : ops[j]? = some o → e ∈ o.after → Region.binds .any e = true → e.on = i → Behind ops listed i j
  | step {j : Nat} {o : Oper} {e : Edge} : ops[j]? = some o → e ∈ o.after → Region.binds .any e = true → listed.getD e.on true = false → Behind ops listed i e.on → Behind ops listed i j
theorem not_behind {listed : Array Bool} {i j : Nat} (hj : j ∈ Region.ready .any ops listed) (hi : listed.getD i true = false) (h : Behind ops listed i j) : False := by
  obtain ⟨_, oj, hoj, hall⟩ := mem_ready.1 hj
  cases h with
  | here h1 h2 h3 h4 =>
    rw [hoj] at h1; injection h1 with h1; subst h1
    have := hall _ h2 h3
    rw [h4] at this
    exact getD_no this hi
  | step h1 h2 h3 h4 h5 =>
    rw [hoj] at h1; injection h1 with h1; subst h1
    exact getD_no (hall _ h2 h3) h4
theorem Behind.mono {listed : Array Bool} {i j k : Nat} (hk : k ∈ Region.ready .any ops listed) (hi : listed.getD i true = false) (h : Behind ops listed i j) : Behind ops (listed.setIfInBounds k true) i j := by
  induction h with
  | here h1 h2 h3 h4 => exact .here h1 h2 h3 h4
  | @step j o e h1 h2 h3 h4 h5 ih =>
    refine .step h1 h2 h3 ?_ ih
    by_cases hke : k = e.on
    · rw [← hke] at h5; exact (not_behind hk hi h5).elim
    · rw [getD_set_ne true hke]; exact h4
def behindB (ops : Array Oper) (listed : Array Bool) (i : Nat) : Nat → Nat → Bool
  | 0, _ => false
  | n + 1, j => match ops[j]? with
    | some o => o.after.any fun e => Region.binds .any e && (e.on == i || (!listed.getD e.on true && behindB ops listed i n e.on))
    | none => false
theorem behindB_ok {listed : Array Bool} {i : Nat} : ∀ {n j : Nat}, behindB ops listed i n j = true → Behind ops listed i j
  | 0, j, h => by simp [behindB] at h
  | n + 1, j, h => by
    unfold behindB at h
    split at h
    · rename_i o ho
      obtain ⟨e, he, hb⟩ := Array.any_eq_true'.1 h
      simp only [Bool.and_eq_true, Bool.or_eq_true, beq_iff_eq, Bool.not_eq_true'] at hb
      rcases hb.2 with h1 | ⟨h1, h2⟩
      · exact .here ho he hb.1 h1
      · exact .step ho he hb.1 h1 (behindB_ok h2)
    · cases h
def wpAnyS (P : Program) (ops : Array Oper) (Q : Exit → Act → World → Prop) (st : Nat → Bool) (R : World → World → Prop) : Nat → Array Bool → Act → World → Prop
  | 0, listed, a, w => Region.ready .any ops listed = [] ∧ Q .normal a w
  | fuel + 1, listed, a, w =>
    (Region.ready .any ops listed = [] → Q .normal a w) ∧
    ∀ i ∈ Region.ready .any ops listed, wpOp P ops Q i (fun a' w' => (st i = true → R w w') ∧ wpAnyS P ops Q st R fuel (listed.setIfInBounds i true) a' w') a w
theorem wpAny_of_S {Q : Exit → Act → World → Prop} {st : Nat → Bool} {R : World → World → Prop} : ∀ (fuel : Nat) (listed : Array Bool) (a : Act) (w : World), wpAnyS P ops Q st R fuel listed a w → wpAny P .any ops Q fuel listed a w
  | 0, _, _, _, h => h
  | fuel + 1, _, _, _, h => ⟨h.1, fun i hi => wpOp_mono (fun a' w' h' => wpAny_of_S fuel _ a' w' h'.2) (h.2 i hi)⟩
theorem take2 {Q : Exit → Act → World → Prop} {st : Nat → Bool} {R : World → World → Prop} (hR : ∀ w, R w w) {S : World → Prop} {i : Nat} {oi : Oper} {v : Value} (hi : ops[i]? = some oi) (hsel : Region.noSelect ops = true)
    (hQ : ∀ c a w, Q (.panic c) (a.put oi.dst v) w → Q (.panic c) a w) :
    ∀ (fuel : Nat) (listed : Array Bool) (a : Act) (w : World),
      (∀ j oj, ops[j]? = some oj → j ≠ i → listed.getD j true = false → (∀ e ∈ oj.after, Region.binds .any e = true → e.on ≠ i) → oi.apart ops oj = true) →
      (∀ j, j < ops.size → j ≠ i → listed.getD j true = false → Behind ops listed i j ∨ ∀ w1 w2, S w1 → (st j = true → R w1 w2) → S w2) →
      i ∈ Region.ready .any ops listed → YieldsIf P ops S oi v a → S w →
      wpAnyS P ops Q st R fuel (listed.setIfInBounds i true) (a.put oi.dst v) w → wpAnyS P ops Q st R (fuel + 1) listed a w := by
  intro fuel
  induction fuel with
  | zero =>
    intro listed a w _ _ hr hy hS H
    refine ⟨fun h => (by rw [h] at hr; cases hr), fun j hj => ?_⟩
    by_cases hji : j = i
    · subst hji; exact hy.wpOp hi hS ⟨fun _ => hR _, H⟩
    · have := ready_mono hj hji
      rw [H.1] at this
      cases this
  | succ fuel ih =>
    intro listed a w hfree hk hr hy hS H
    refine ⟨fun h => (by rw [h] at hr; cases hr), fun j hj => ?_⟩
    by_cases hji : j = i
    · subst hji; exact hy.wpOp hi hS ⟨fun _ => hR _, H⟩
    · have h1 := H.2 j (ready_mono hj hji)
      obtain ⟨hjun, oj, hoj, hall⟩ := mem_ready.1 hj
      have hi0 := (mem_ready.1 hr).1
      have hnot : ∀ e ∈ oj.after, Region.binds .any e = true → e.on ≠ i := fun e he hb heq => by
        have h1 := hall e he hb
        rw [heq] at h1
        exact getD_no h1 hi0
      have hsel' := Region.noSelect_spec hsel
      have h2 := wpOp_putIf hoj (hfree j oj hoj hji hjun hnot) (fun cs b => hsel' i oi cs b hi) (fun cs b => hsel' j oj cs b hoj) hQ hy h1
      have hun2 : ∀ k, (listed.setIfInBounds j true).getD k true = false → listed.getD k true = false := fun k hun => by
        by_cases hjk : j = k
        · subst hjk; exact hjun
        · rw [getD_set_ne true hjk] at hun; exact hun
      have hstep : ∀ w2, (st j = true → R w w2) → S w2 := fun w2 hw2 => by
        rcases hk j (Array.getElem?_eq_some_iff.1 hoj).1 hji hjun with hb | hb
        · exact (not_behind hj hi0 hb).elim
        · exact hb w w2 hS hw2
      refine wpOp_mono (fun a' w' h3 => ⟨h3.2.1, ih (listed.setIfInBounds j true) a' w' (fun k ok hk1 hki hun hno => hfree k ok hk1 hki (hun2 k hun) hno) (fun k hk1 hki hun => ?_) (ready_mono hr (Ne.symm hji)) h3.1 (hstep w' h3.2.1) ?_⟩) h2
      · rcases hk k hk1 hki (hun2 k hun) with hb | hb
        · exact .inl (hb.mono hj hi0)
        · exact .inr hb
      · rw [Array.setIfInBounds_comm _ _ hji]
        exact h3.2.2
def stI (st : Oper → Bool) (ops : Array Oper) (i : Nat) : Bool := ((ops[i]?).map st).getD false
def pend (st : Oper → Bool) (ops : Array Oper) (listed : Array Bool) (i : Nat) : Bool :=
  (List.range ops.size).all fun j => j == i || (listed.getD j true || (stI st ops j || behindB ops listed i ops.size j))
def expl2 (P : Program) (kp : Bool) (N : Nat) (st : Oper → Bool) (ops : Array Oper) : Nat → Array Bool → Option XT
  | 0, listed => if Region.ready .any ops listed = [] then some .done else none
  | fuel + 1, listed =>
    let rs := Region.ready .any ops listed
    if rs = [] then some .done else
    match rs.find? fun i => Region.free .any ops listed i && ((ops[i]?).map fun o => early P false o || (early P true o && pend st ops listed i)).getD false with
    | some i => (ops[i]?).bind fun o => (compI P kp N ops o).bind fun x => (expl2 P kp N st ops fuel (listed.setIfInBounds i true)).map (.take x)
    | none => (rs.mapM fun i => (ops[i]?).bind fun o => (compI P kp N ops o).bind fun x => (expl2 P kp N st ops fuel (listed.setIfInBounds i true)).map fun t => (x, t)).map (.alt (rs.map (stI st ops)))
theorem evAlt2_mem [Inp] {G : List CEntry} {K : Env → Mem → Prop} {g : Nat → Bool} {f : Nat → Option (XI × XT)} : ∀ {rs : List Nat} {alts : List (XI × XT)}, rs.mapM f = some alts → evAlt2 G alts (rs.map g) e m K → ∀ i ∈ rs, ∃ y, f i = some y ∧ (g i = true → quiet G e y.1.op = true) ∧ evI G y.1 e m fun e m => evT G y.2 e m K
  | [], alts, h, hh, i, hi => by simp at hi
  | a :: rs, alts, h, hh, i, hi => by
    rw [List.mapM_cons] at h
    obtain ⟨b, hb, h⟩ := Option.bind_eq_some_iff.1 h
    obtain ⟨bs, hbs, h⟩ := Option.bind_eq_some_iff.1 h
    simp at h
    subst h
    obtain ⟨i0, t0⟩ := b
    simp only [List.map_cons, evAlt2, List.headD_cons, List.tail_cons] at hh
    rcases List.mem_cons.1 hi with rfl | hi
    · exact ⟨_, hb, hh.1⟩
    · exact evAlt2_mem hbs hh.2 i hi
theorem expl2_sound [Inp] {G : List CEntry} (hG : GOk P G) (st : Oper → Bool) (hsel : Region.noSelect ops = true) {Q : Exit → Act → World → Prop} (hQ : ∀ c a w, ¬ Q (.panic c) a w) {K : Env → Mem → Prop} :
    ∀ (fuel : Nat) {listed : Array Bool} {t : XT} {e : Env} {m : Mem} {r : List Loc} {a : Act} {W : World}, expl2 P kp N st ops fuel listed = some t → evT G t e m K → St base w0 r m W → EnvIs N r e a.tmps →
    (∀ e' m' r' a' W1, K e' m' → St base w0 r' m' W1 → EnvIs N r' e' a'.tmps → a'.defers = a.defers → Kp r r' → Q .normal a' W1) → wpAnyS P ops Q (stI st ops) (Same []) fuel listed a W
  | 0, listed, t, e, m, r, a, W, hc, h, hst, he, hK => by
    simp only [expl2] at hc
    split at hc
    · rename_i hr
      injection hc with hc; subst hc
      simp only [evT] at h
      exact ⟨hr, hK _ _ _ _ _ h hst he rfl (Kp.refl _)⟩
    · cases hc
  | fuel + 1, listed, t, e, m, r, a, W, hc, h, hst, he, hK => by
    simp only [expl2] at hc
    split at hc
    · rename_i hr
      injection hc with hc; subst hc
      simp only [evT] at h
      exact ⟨fun _ => hK _ _ _ _ _ h hst he rfl (Kp.refl _), fun i hi => by rw [hr] at hi; cases hi⟩
    rename_i hne
    split at hc
    · rename_i i hfind
      obtain ⟨o, ho, hc⟩ := Option.bind_eq_some_iff.1 hc
      obtain ⟨x, hx, hc⟩ := Option.bind_eq_some_iff.1 hc
      obtain ⟨t', ht', hc⟩ := Option.map_eq_some_iff.1 hc
      subst hc
      simp only [evT] at h
      have hp := List.find?_some hfind
      have hmem := List.mem_of_find?_eq_some hfind
      rw [ho] at hp
      simp only [Option.map_some, Option.getD_some, Bool.and_eq_true, Bool.or_eq_true] at hp
      obtain ⟨q, hq1, hq2⟩ : ∃ q, early P q o = true ∧ (q = true → pend st ops listed i = true) := by
        rcases hp.2 with h1 | h1
        · exact ⟨false, h1, fun h => by cases h⟩
        · exact ⟨true, h1.1, fun _ => h1.2⟩
      obtain ⟨hd, s, u, h1, h2, h3⟩ := evI_yields (ops := ops) hx hq1 h hst he
      refine take2 (S := fun W' => q = true → Same r W W') (fun w => Same.refl _ _) ho hsel (fun c a w hh => (hQ c _ w hh).elim) fuel listed a W (Region.free_spec ho hp.1) (fun j hj hji hun => ?_) hmem h3 (fun _ => Same.refl _ _) ?_
      · cases q with
        | false => exact .inr fun _ _ _ _ h => by cases h
        | true =>
          have := List.all_eq_true.1 (hq2 rfl) j (List.mem_range.2 hj)
          simp only [Bool.or_eq_true, beq_iff_eq, hji, hun, Bool.false_eq_true, false_or] at this
          rcases this with h4 | h4
          · exact .inr fun w1 w2 g1 g2 _ => (g1 rfl).trans (g2 h4)
          · exact .inl (behindB_ok h4)
      · exact expl2_sound hG st hsel hQ fuel ht' h1 hst (he.putO o.dst hd h2) (fun e' m' r' a' W1 g1 g2 g3 g4 g5 => hK e' m' r' a' W1 g1 g2 g3 (g4.trans (by cases o.dst <;> rfl)) g5)
    · rename_i hfind
      obtain ⟨alts, halts, hc⟩ := Option.map_eq_some_iff.1 hc
      subst hc
      simp only [evT] at h
      refine ⟨fun h0 => absurd h0 hne, fun i hi => ?_⟩
      obtain ⟨y, hf, hqu, hev⟩ := evAlt2_mem halts h i hi
      obtain ⟨o, ho, hf⟩ := Option.bind_eq_some_iff.1 hf
      obtain ⟨x, hx, hf⟩ := Option.bind_eq_some_iff.1 hf
      obtain ⟨t', ht', hf⟩ := Option.map_eq_some_iff.1 hf
      subst hf
      refine evI_sound hG ho hx hev hst he (fun e' m' tt a' W1 h1 h2 h3 h4 h5 => ?_)
      refine ⟨fun hq => h5 (hqu hq), ?_⟩
      exact expl2_sound hG st hsel hQ fuel ht' h1 h2 h3 (fun e' m' r' a'' W2 g1 g2 g3 g4 g5 => hK e' m' r' a'' W2 g1 g2 g3 (g4.trans h4) ((Kp.ext _ _).trans g5))
theorem wp_region_S {Q : Exit → Act → World → Prop} {st : Nat → Bool} {R : World → World → Prop} {id : Nat} (hm : P.follows .mixedOrders = true)
    (h : wpAnyS P ops Q st R ops.size (Array.replicate ops.size false) a W.drew) : (Code.region id ops true).wp P Q a W :=
  wp_region_any hm (wpAny_of_S _ _ _ _ h)
end
end Go.Proofs.Ytcejgadbpahbmaa.Sz
end
section
namespace Go.Proofs.Ytcejgadbpahbmaa.Sz
open Go.RowKit
inductive XC where
  | skip
  | tree (t : XT)
  | seq (a b : XC)
  | cond (c : XO) (a b : XC)
  | block (id : Nat) (a : XC)
  | loop (a : XC)
  | exit (id : Nat)
  | ret
def loud (P : Program) (eff : List FuncId) (o : Oper) : Bool :=
  match compB P o.op with
  | some (.store ..) | some (.app ..) | some (.mapUpd ..) | some (.mapEnt ..) | some (.entSt ..) => true
  | some (.call (.cst (.fn f _)) _) => eff.contains f
  | some (.call _ _) => true
  | _ => false
def compC (P : Program) (N : Nat) (eff : List FuncId) : Code → Option XC
  | .skip => some .skip
  | .region _ ops false => (lin P (eff.contains 999999) N ops ops.toList).map .tree
  | .region _ ops true => if P.follows .mixedOrders = true ∧ Region.noSelect ops = true then (if ops.any (loud P eff) = true then expl2 P (eff.contains 999999) N (fun o => !loud P eff o) ops ops.size (Array.replicate ops.size false) else expl P (eff.contains 999999) N true ops ops.size (Array.replicate ops.size false)).map .tree else none
  | .seq a b => (compC P N eff a).bind fun x => (compC P N eff b).map (.seq x)
  | .cond c a b => (compC P N eff a).bind fun x => (compC P N eff b).map (.cond (XO.of c) x)
  | .block id a => (compC P N eff a).map (.block id)
  | .loop a => (compC P N eff a).map .loop
  | .exit id => some (.exit id)
  | .ret => some .ret
  | _ => none
abbrev Post := Exit → Env → Mem → Prop
def goes : Exit → Prop
  | .normal | .exit _ | .ret => True
  | _ => False
def PostX [Inp] (N : Nat) (base : Nat → Prop) (w0 : World) (df : List Deferred) (r0 : List Loc) (Q : Post) : Exit → Act → World → Prop := fun ex a W =>
  goes ex ∧ ∃ e m r, Q ex e m ∧ St base w0 r m W ∧ EnvIs N r e a.tmps ∧ a.defers = df ∧ Kp r0 r
def TX [Inp] (P : Program) (N : Nat) (eff : List FuncId) (x : XC) (e : Env) (m : Mem) (Q : Post) : Prop :=
  ∀ c, compC P N eff c = some x → ∀ (base : Nat → Prop) (w0 W : World) (r : List Loc) (a : Act), St base w0 r m W → EnvIs N r e a.tmps → c.wp P (PostX N base w0 a.defers r Q) a W
def thenQ (K : Env → Mem → Prop) (Q : Post) : Post
  | .normal, e, m => K e m
  | ex, e, m => Q ex e m
def blockQ (id : Nat) (Q : Post) : Post
  | .exit i, e, m => if i = id then Q .normal e m else Q (.exit i) e m
  | ex, e, m => Q ex e m
def upd (e : Env) : XO → Bool → Env
  | .tmp t, b => put e t (.v (.bool b))
  | _, _ => e
theorem upd_same {e : Env} {c : XO} {b : Bool} (h : c.get e = .v (.bool b)) : upd e c b = e := by
  cases c with
  | tmp t =>
    funext y
    simp only [upd, put]
    split
    · rename_i hy; subst hy; exact h.symm
    · rfl
  | cst s => rfl
def evX [Inp] (P : Program) (N : Nat) (eff : List FuncId) (G : List CEntry) : XC → Env → Mem → Post → Prop
  | .skip, e, m, Q => Q .normal e m
  | .tree t, e, m, Q => evT G t e m (fun e m => Q .normal e m)
  | .seq a b, e, m, Q => evX P N eff G a e m (thenQ (fun e m => evX P N eff G b e m Q) Q)
  | .cond c a b, e, m, Q => match c.get e with | .v (.bool t) => if t = true then evX P N eff G a (upd e c true) m Q else evX P N eff G b (upd e c false) m Q | _ => False
  | .block id a, e, m, Q => evX P N eff G a e m (blockQ id Q)
  | .loop a, e, m, Q => TX P N eff (.loop a) e m Q
  | .exit id, e, m, Q => Q (.exit id) e m
  | .ret, e, m, Q => Q .ret e m
section
variable {P : Program} {N : Nat} {eff : List FuncId} {G : List CEntry}
theorem TX.mono [Inp] {x : XC} {e : Env} {m : Mem} {Q Q' : Post} (h : TX P N eff x e m Q) (hq : ∀ ex e m, Q ex e m → Q' ex e m) : TX P N eff x e m Q' :=
  fun c hc base w0 W r a hst he => wp_mono (h c hc base w0 W r a hst he) fun ex a' W' ⟨h0, e', m', r', h1, h2⟩ => ⟨h0, e', m', r', hq _ _ _ h1, h2⟩
theorem evX_sound [Inp] (hG : GOk P G) : ∀ (x : XC) {e : Env} {m : Mem} {Q : Post}, evX P N eff G x e m Q → TX P N eff x e m Q := by
  intro x
  induction x with
  | skip =>
    intro e m Q h c hc base w0 W r a hst he
    unfold compC at hc
    split at hc
    case h_1 => exact wp_skip ⟨trivial, e, m, r, h, hst, he, rfl, Kp.refl _⟩
    all_goals first | (cases hc; done) | (obtain ⟨x1, hx1, hc⟩ := Option.bind_eq_some_iff.1 hc; obtain ⟨x2, hx2, hc⟩ := Option.map_eq_some_iff.1 hc; cases hc; done) | (obtain ⟨x1, hx1, hc⟩ := Option.map_eq_some_iff.1 hc; cases hc; done) | (split at hc <;> first | (cases hc; done) | (obtain ⟨x1, hx1, hc⟩ := Option.map_eq_some_iff.1 hc; cases hc; done))
  | exit id =>
    intro e m Q h c hc base w0 W r a hst he
    unfold compC at hc
    split at hc
    case h_8 i => injection hc with hc; injection hc with hc; subst hc; exact wp_exit ⟨trivial, e, m, r, h, hst, he, rfl, Kp.refl _⟩
    all_goals first | (cases hc; done) | (obtain ⟨x1, hx1, hc⟩ := Option.bind_eq_some_iff.1 hc; obtain ⟨x2, hx2, hc⟩ := Option.map_eq_some_iff.1 hc; cases hc; done) | (obtain ⟨x1, hx1, hc⟩ := Option.map_eq_some_iff.1 hc; cases hc; done) | (split at hc <;> first | (cases hc; done) | (obtain ⟨x1, hx1, hc⟩ := Option.map_eq_some_iff.1 hc; cases hc; done))
  | ret =>
    intro e m Q h c hc base w0 W r a hst he
    unfold compC at hc
    split at hc
    case h_9 => exact wp_ret ⟨trivial, e, m, r, h, hst, he, rfl, Kp.refl _⟩
    all_goals first | (cases hc; done) | (obtain ⟨x1, hx1, hc⟩ := Option.bind_eq_some_iff.1 hc; obtain ⟨x2, hx2, hc⟩ := Option.map_eq_some_iff.1 hc; cases hc; done) | (obtain ⟨x1, hx1, hc⟩ := Option.map_eq_some_iff.1 hc; cases hc; done) | (split at hc <;> first | (cases hc; done) | (obtain ⟨x1, hx1, hc⟩ := Option.map_eq_some_iff.1 hc; cases hc; done))
  | tree t =>
    intro e m Q h c hc base w0 W r a hst he
    simp only [evX] at h
    unfold compC at hc
    split at hc
    case h_2 id ops =>
      · obtain ⟨t', ht, hc⟩ := Option.map_eq_some_iff.1 hc
        injection hc with hc; subst hc
        refine wp_region ?_
        rw [List.range_eq_range', ← Array.length_toList]
        exact lin_sound hG ops.toList 0 (fun j o hj => by simpa using hj) ht h hst he (fun e' m' r' a' W1 h1 h2 h3 h4 h5 => ⟨trivial, e', m', r', h1, h2, h3, h4, h5⟩)
    case h_3 id ops =>
      · split at hc
        · rename_i hcond
          obtain ⟨t', ht, hc⟩ := Option.map_eq_some_iff.1 hc
          injection hc with hc; subst hc
          split at ht
          · refine wp_region_S (st := stI (fun o => !loud P eff o) ops) (R := Same []) hcond.1 ?_
            exact expl2_sound hG _ hcond.2 (fun c a w hh => hh.1) _ ht h hst.drew he (fun e' m' r' a' W1 h1 h2 h3 h4 h5 => ⟨trivial, e', m', r', h1, h2, h3, h4, h5⟩)
          · refine wp_region_held (S := fun W' => true = true → Same r W.drew W') hcond.1 ?_
            exact expl_sound hG _ hcond.2 (fun c a w hh => hh.1) _ ht h hst.drew he (fun W' hW => hW) (fun e' m' r' a' W1 h1 h2 h3 h4 h5 => ⟨trivial, e', m', r', h1, h2, h3, h4, h5⟩)
        · cases hc
    all_goals first | (cases hc; done) | (obtain ⟨x1, hx1, hc⟩ := Option.bind_eq_some_iff.1 hc; obtain ⟨x2, hx2, hc⟩ := Option.map_eq_some_iff.1 hc; cases hc; done) | (obtain ⟨x1, hx1, hc⟩ := Option.map_eq_some_iff.1 hc; cases hc; done) | (split at hc <;> first | (cases hc; done) | (obtain ⟨x1, hx1, hc⟩ := Option.map_eq_some_iff.1 hc; cases hc; done))
  | seq x y ihx ihy =>
    intro e m Q h c hc base w0 W r a hst he
    simp only [evX] at h
    unfold compC at hc
    split at hc
    case h_4 c1 c2 =>
      obtain ⟨x1, hx1, hc⟩ := Option.bind_eq_some_iff.1 hc
      obtain ⟨x2, hx2, hc⟩ := Option.map_eq_some_iff.1 hc
      injection hc with h1 h2; subst h1; subst h2
      refine wp_seq (wp_mono (ihx h c1 hx1 base w0 W r a hst he) ?_)
      rintro ex a' W' ⟨hgo, e', m', r', hq, hst', he', hd, hkp⟩
      cases ex <;> simp only [Exit.then]
      case normal => simp only [thenQ] at hq; have := ihy hq c2 hx2 base w0 W' r' a' hst' he'; rw [hd] at this; exact wp_mono this fun ex2 a2 W2 ⟨q1, e2, m2, r2, q2, q3, q4, q5, q6⟩ => ⟨q1, e2, m2, r2, q2, q3, q4, q5, hkp.trans q6⟩
      case exit i => exact ⟨trivial, e', m', r', hq, hst', he', hd, hkp⟩
      case ret => exact ⟨trivial, e', m', r', hq, hst', he', hd, hkp⟩
      all_goals exact hgo.elim
    all_goals first | (cases hc; done) | (obtain ⟨x1, hx1, hc⟩ := Option.bind_eq_some_iff.1 hc; obtain ⟨x2, hx2, hc⟩ := Option.map_eq_some_iff.1 hc; cases hc; done) | (obtain ⟨x1, hx1, hc⟩ := Option.map_eq_some_iff.1 hc; cases hc; done) | (split at hc <;> first | (cases hc; done) | (obtain ⟨x1, hx1, hc⟩ := Option.map_eq_some_iff.1 hc; cases hc; done))
  | cond co x y ihx ihy =>
    intro e m Q h c hc base w0 W r a hst he
    simp only [evX] at h
    unfold compC at hc
    split at hc
    case h_5 c0 c1 c2 =>
      obtain ⟨x1, hx1, hc⟩ := Option.bind_eq_some_iff.1 hc
      obtain ⟨x2, hx2, hc⟩ := Option.map_eq_some_iff.1 hc
      injection hc with h1 h2 h3; subst h1; subst h2; subst h3
      have hv := he.get c0
      split at h
      · rename_i t ht
        rw [ht] at hv
        simp only [SV.Is] at hv
        refine wp_cond hv ?_
        cases t
        · rw [if_neg (by simp), upd_same ht] at h
          exact ihy h c2 hx2 base w0 W r a hst he
        · rw [if_pos rfl, upd_same ht] at h
          exact ihx h c1 hx1 base w0 W r a hst he
      · exact h.elim
    all_goals first | (cases hc; done) | (obtain ⟨x1, hx1, hc⟩ := Option.bind_eq_some_iff.1 hc; obtain ⟨x2, hx2, hc⟩ := Option.map_eq_some_iff.1 hc; cases hc; done) | (obtain ⟨x1, hx1, hc⟩ := Option.map_eq_some_iff.1 hc; cases hc; done) | (split at hc <;> first | (cases hc; done) | (obtain ⟨x1, hx1, hc⟩ := Option.map_eq_some_iff.1 hc; cases hc; done))
  | block id x ih =>
    intro e m Q h c hc base w0 W r a hst he
    simp only [evX] at h
    unfold compC at hc
    split at hc
    case h_6 i c1 =>
      obtain ⟨x1, hx1, hc⟩ := Option.map_eq_some_iff.1 hc
      injection hc with h1 h2; subst h1; subst h2
      refine wp_block (wp_mono (ih h c1 hx1 base w0 W r a hst he) ?_)
      rintro ex a' W' ⟨hgo, e', m', r', hq, hst', he', hd, hkp⟩
      cases ex <;> simp only [Exit.inBlock]
      case normal => exact ⟨trivial, e', m', r', hq, hst', he', hd, hkp⟩
      case exit j =>
        simp only [blockQ] at hq
        split
        · rename_i hj; rw [if_pos hj] at hq; exact ⟨trivial, e', m', r', hq, hst', he', hd, hkp⟩
        · rename_i hj; rw [if_neg hj] at hq; exact ⟨trivial, e', m', r', hq, hst', he', hd, hkp⟩
      case ret => exact ⟨trivial, e', m', r', hq, hst', he', hd, hkp⟩
      all_goals exact hgo.elim
    all_goals first | (cases hc; done) | (obtain ⟨x1, hx1, hc⟩ := Option.bind_eq_some_iff.1 hc; obtain ⟨x2, hx2, hc⟩ := Option.map_eq_some_iff.1 hc; cases hc; done) | (obtain ⟨x1, hx1, hc⟩ := Option.map_eq_some_iff.1 hc; cases hc; done) | (split at hc <;> first | (cases hc; done) | (obtain ⟨x1, hx1, hc⟩ := Option.map_eq_some_iff.1 hc; cases hc; done))
  | loop x ih =>
    intro e m Q h
    exact h
end
end Go.Proofs.Ytcejgadbpahbmaa.Sz
end
section
namespace Go.Proofs.Ytcejgadbpahbmaa.Sz
open Go.RowKit
mutual
def Le (g : List Nat) : SV → SV → Prop
  | .any, _ => True
  | .v x, s => s = .v x
  | .ptr k o, s => match g[k]? with | some k' => s = .ptr k' o | none => False
  | .row k o n sz, s => match g[k]? with | some k' => s = .row k' o n sz | none => False
  | .agg cs, s => match s with | .agg ds => LeL g cs ds | _ => False
  | .tup cs, s => match s with | .tup ds => LeL g cs ds | _ => False
  | .fn f cs, s => match s with | .fn f' ds => f' = f ∧ LeL g cs ds | _ => False
  | .bnd f cs, s => match s with | .bnd f' ds => f' = f ∧ LeL g cs ds | _ => False
  | .emp, s => s = .emp
  | .zro, s => match s with | .zro => True | .v (.slice none 0 0) => True | _ => False
  | .mp k, s => match g[k]? with | some k' => s = .mp k' | none => False
def LeL (g : List Nat) : List SV → List SV → Prop
  | [], ds => ds = []
  | c :: cs, ds => match ds with | d :: ds => Le g c d ∧ LeL g cs ds | [] => False
end
mutual
theorem Le.is {g : List Nat} {r r' : List Loc} (hr : ∀ (j k : Nat), g[j]? = some k → ∀ l, r[k]? = some l → r'[j]? = some l) : ∀ {s' s : SV} {u : Value}, Le g s' s → s.Is r u → s'.Is r' u
  | .any, s, u, h, hs => by simp only [SV.Is]
  | .emp, s, u, h, hs => by simp only [Le] at h; subst h; simpa only [SV.Is] using hs
  | .v x, s, u, h, hs => by simp only [Le] at h; subst h; simpa only [SV.Is] using hs
  | .zro, s, u, h, hs => by
    unfold Le at h
    split at h
    · simpa only [SV.Is] using hs
    · simp only [SV.Is] at hs ⊢
      subst hs
      exact ⟨none, rfl, fun x hx => by cases hx⟩
    · exact h.elim
  | .mp k, s, u, h, hs => by
    simp only [Le] at h
    split at h
    · rename_i k' hk
      subst h
      simp only [SV.Is] at hs ⊢
      obtain ⟨l, hl, hu⟩ := hs
      exact ⟨l, hr _ _ hk _ hl, hu⟩
    · exact h.elim
  | .ptr k o, s, u, h, hs => by
    simp only [Le] at h
    split at h
    · rename_i k' hk
      subst h
      simp only [SV.Is] at hs ⊢
      obtain ⟨l, hl, hu⟩ := hs
      exact ⟨l, hr _ _ hk _ hl, hu⟩
    · exact h.elim
  | .row k o n sz, s, u, h, hs => by
    simp only [Le] at h
    split at h
    · rename_i k' hk
      subst h
      simp only [SV.Is] at hs ⊢
      obtain ⟨l, cap, hl, hu⟩ := hs
      exact ⟨l, cap, hr _ _ hk _ hl, hu⟩
    · exact h.elim
  | .agg cs, s, u, h, hs => by
    simp only [Le] at h
    split at h
    · simp only [SV.Is] at hs ⊢
      obtain ⟨us, hu, hus⟩ := hs
      exact ⟨us, hu, LeL.is hr h hus⟩
    · exact h.elim
  | .tup cs, s, u, h, hs => by
    simp only [Le] at h
    split at h
    · simp only [SV.Is] at hs ⊢
      obtain ⟨us, hu, hus⟩ := hs
      exact ⟨us, hu, LeL.is hr h hus⟩
    · exact h.elim
  | .fn f cs, s, u, h, hs => by
    simp only [Le] at h
    split at h
    · obtain ⟨rfl, h⟩ := h
      simp only [SV.Is] at hs ⊢
      obtain ⟨us, hu, hus⟩ := hs
      exact ⟨us, hu, LeL.is hr h hus⟩
    · exact h.elim
  | .bnd f cs, s, u, h, hs => by
    simp only [Le] at h
    split at h
    · obtain ⟨rfl, h⟩ := h
      simp only [SV.Is] at hs ⊢
      obtain ⟨us, hu, hus⟩ := hs
      exact ⟨us, hu, LeL.is hr h hus⟩
    · exact h.elim
theorem LeL.is {g : List Nat} {r r' : List Loc} (hr : ∀ (j k : Nat), g[j]? = some k → ∀ l, r[k]? = some l → r'[j]? = some l) : ∀ {s' s : List SV} {u : List Value}, LeL g s' s → SV.IsL r s u → SV.IsL r' s' u
  | [], s, u, h, hs => by simp only [LeL] at h; subst h; simpa only [SV.IsL] using hs
  | c :: cs, s, u, h, hs => by
    simp only [LeL] at h
    split at h
    · simp only [SV.IsL] at hs ⊢
      obtain ⟨x, y, h1, h2, h3⟩ := hs
      exact ⟨x, y, h1, Le.is hr h.1 h2, LeL.is hr h.2 h3⟩
    · exact h.elim
end
theorem LeL_len {g : List Nat} : ∀ {s' s : List SV}, LeL g s' s → s.length = s'.length
  | [], s, h => by simp only [LeL] at h; subst h; rfl
  | c :: cs, s, h => by
    simp only [LeL] at h
    split at h
    · simp [LeL_len h.2]
    · exact h.elim
theorem LeL_v (g : List Nat) : ∀ l : List Value, LeL g (l.map SV.v) (l.map SV.v)
  | [] => by simp [LeL]
  | x :: l => by simp only [List.map_cons, LeL, Le]; exact ⟨trivial, LeL_v g l⟩
def MLe (g : List Nat) : List (Value × SV) → List (Value × SV) → Prop
  | [], es => es = []
  | p :: ps, es => match es with | q :: qs => p.1 = q.1 ∧ Le g p.2 q.2 ∧ MLe g ps qs | [] => False
def ExtLe (g : List Nat) (own : Bool) : ExtV → ExtV → Prop
  | .no, .no => True
  | .no, .abs _ _ => True
  | .map kt es', .map kt2 es => own = true ∧ kt = kt2 ∧ MLe g es' es
  | .abs A refs', .abs B refs => own = true ∧ A = B ∧ refs'.mapM (g[·]?) = some refs
  | _, _ => False
@[simp] theorem extLe_no {g : List Nat} {o : Bool} : ExtLe g o (@Ext.v noExt) (@Ext.v noExt) = True := rfl
def ObLe (g : List Nat) (o' o : SObj) : Prop := (o' = ⟨false, []⟩) ∨ ((o'.own = true → o.own = true) ∧ LeL g o'.cells o.cells ∧ ExtLe g o'.own o'.x.v o.x.v)
theorem MLe_len {g : List Nat} : ∀ {ps es : List (Value × SV)}, MLe g ps es → es.length = ps.length
  | [], es, h => by simp only [MLe] at h; subst h; rfl
  | p :: ps, [], h => by simp [MLe] at h
  | p :: ps, q :: qs, h => by simp [MLe_len h.2.2]
theorem MLe_is {g : List Nat} {r r' : List Loc} (hr : ∀ (j k : Nat), g[j]? = some k → ∀ l, r[k]? = some l → r'[j]? = some l) {d : TypeDesc} : ∀ {n : Nat} {ps es : List (Value × SV)} {us : List MapEntry}, MLe g ps es → MapIs r d n es us → MapIs r' d n ps us
  | n, [], es, us, h, hm => by simp only [MLe] at h; subst h; exact hm
  | n, p :: ps, [], us, h, hm => by simp [MLe] at h
  | n, p :: ps, q :: qs, us, h, hm => by
    obtain ⟨h1, h2, h3⟩ := h
    obtain ⟨e, t, rfl, a1, a2, a3, a4, a5⟩ := hm
    exact ⟨e, t, rfl, h1.trans a1, h2.is hr a2, a3, a4, MLe_is hr h3 a5⟩
theorem mapM_ren {g : List Nat} {r r' : List Loc} (hr : ∀ (j k : Nat), g[j]? = some k → ∀ l, r[k]? = some l → r'[j]? = some l) : ∀ {refs' refs : List Nat} {ls : List Loc}, refs'.mapM (g[·]?) = some refs → refs.mapM (r[·]?) = some ls → refs'.mapM (r'[·]?) = some ls
  | [], refs, ls, h, h2 => by
    simp at h; subst h; simpa using h2
  | j :: js, refs, ls, h, h2 => by
    rw [List.mapM_cons] at h ⊢
    obtain ⟨a, ha, h⟩ := Option.bind_eq_some_iff.1 h
    obtain ⟨b, hb, h⟩ := Option.bind_eq_some_iff.1 h
    simp at h
    subst h
    rw [List.mapM_cons] at h2
    obtain ⟨c, hc, h2⟩ := Option.bind_eq_some_iff.1 h2
    obtain ⟨d, hd, h2⟩ := Option.bind_eq_some_iff.1 h2
    simp at h2
    subst h2
    simp [hr j a ha c hc, mapM_ren hr hb hd]
theorem ExtLe.is {g : List Nat} {r r' : List Loc} (hr : ∀ (j k : Nat), g[j]? = some k → ∀ l, r[k]? = some l → r'[j]? = some l) {w : World} {l : Loc} {o' o : SObj} (h : ExtLe g o'.own o'.x.v o.x.v) (ho : ExtIs r w l o) (h2 : LeL g o'.cells o.cells) : ExtIs r' w l o' := by
  unfold ExtIs at ho ⊢
  split
  · trivial
  · rename_i kt ps he
    rw [he] at h
    cases hx : o.x.v with
    | no => rw [hx] at h; exact h.elim
    | abs A refs => rw [hx] at h; exact h.elim
    | map kt2 es =>
      rw [hx] at h
      obtain ⟨h1, rfl, h⟩ := h
      simp only [hx] at ho
      obtain ⟨⟨q1, q2, q3⟩, us, q4, q5⟩ := ho
      rw [q1] at h2
      exact ⟨⟨List.length_eq_zero_iff.1 (by have := LeL_len h2; simpa using this.symm), q2, h1⟩, us, by rw [← MLe_len h]; exact q4, MLe_is hr h q5⟩
  · rename_i A refs' he
    rw [he] at h
    cases hx : o.x.v with
    | no => rw [hx] at h; exact h.elim
    | map kt2 es => rw [hx] at h; exact h.elim
    | abs B refs =>
      rw [hx] at h
      exact h.1
theorem ExtLe.hid {g : List Nat} {r r' : List Loc} (hr : ∀ (j k : Nat), g[j]? = some k → ∀ l, r[k]? = some l → r'[j]? = some l) {w : World} {l : Loc} {fp : List Nat} {o' o : SObj} (h : ExtLe g o'.own o'.x.v o.x.v) (ho : HidIs r w l fp o) : HidIs r' w l fp o' := by
  unfold HidIs at ho ⊢
  split
  · rename_i A refs' he
    rw [he] at h
    cases hx : o.x.v with
    | no => rw [hx] at h; exact h.elim
    | map kt2 es => rw [hx] at h; exact h.elim
    | abs B refs =>
      rw [hx] at h
      obtain ⟨h1, rfl, h⟩ := h
      simp only [hx] at ho
      obtain ⟨ls, q2, q3⟩ := ho
      exact ⟨ls, mapM_ren hr h q2, q3⟩
  · trivial
theorem ExtLe.isM {g : List Nat} {o' o : SObj} (h : ExtLe g o'.own o'.x.v o.x.v) (hm : o'.isM = false) : o.isM = false := by
  unfold SObj.isM at hm ⊢
  cases hx : o.x.v with
  | no => rfl
  | abs A refs => rfl
  | map kt es =>
    rw [hx] at h
    cases hx' : o'.x.v with
    | no => rw [hx'] at h; exact h.elim
    | abs A refs => rw [hx'] at h; exact h.elim
    | map kt2 es2 => rw [hx'] at hm; exact hm
def NdA (k : Nat) (o : SObj) : List Nat → Mem → Prop
  | k' :: ks, o' :: m' => (k ≠ k' ∨ (o.own = false ∧ o.cells = []) ∨ (o'.own = false ∧ o'.cells = [])) ∧ NdA k o ks m'
  | _, _ => True
def NdL : List Nat → Mem → Prop
  | k :: ks, o :: m' => NdA k o ks m' ∧ NdL ks m'
  | _, _ => True
theorem NdA_get {k : Nat} {o : SObj} : ∀ {g : List Nat} {m : Mem}, NdA k o g m → ∀ {j k' : Nat} {o' : SObj}, g[j]? = some k' → m[j]? = some o' → (o.own = true ∨ o.cells ≠ []) → (o'.own = true ∨ o'.cells ≠ []) → k ≠ k'
  | [], m, _, j, k', o', h1, _, _, _ => by simp at h1
  | _ :: _, [], _, j, k', o', _, h2, _, _ => by simp at h2
  | k1 :: ks, o1 :: m, h, 0, k', o', h1, h2, a, b => by
    simp at h1 h2
    subst h1; subst h2
    simp only [NdA] at h
    rcases h.1 with h | h | h
    · exact h
    · rcases a with a | a
      · rw [h.1] at a; cases a
      · exact (a h.2).elim
    · rcases b with b | b
      · rw [h.1] at b; cases b
      · exact (b h.2).elim
  | k1 :: ks, o1 :: m, h, j + 1, k', o', h1, h2, a, b => by
    simp only [NdA] at h
    exact NdA_get h.2 (by simpa using h1) (by simpa using h2) a b
theorem NdL_get : ∀ {g : List Nat} {m : Mem}, NdL g m → ∀ {i j k k' : Nat} {o o' : SObj}, i ≠ j → g[i]? = some k → g[j]? = some k' → m[i]? = some o → m[j]? = some o' → (o.own = true ∨ o.cells ≠ []) → (o'.own = true ∨ o'.cells ≠ []) → k ≠ k'
  | [], m, _, i, j, k, k', o, o', _, h1, _, _, _, _, _ => by simp at h1
  | _ :: _, [], _, i, j, k, k', o, o', _, _, _, h3, _, _, _ => by simp at h3
  | k1 :: ks, o1 :: m, h, 0, 0, k, k', o, o', hne, _, _, _, _, _, _ => (hne rfl).elim
  | k1 :: ks, o1 :: m, h, 0, j + 1, k, k', o, o', hne, h1, h2, h3, h4, a, b => by
    simp at h1 h3
    subst h1; subst h3
    exact NdA_get h.1 (by simpa using h2) (by simpa using h4) a b
  | k1 :: ks, o1 :: m, h, i + 1, 0, k, k', o, o', hne, h1, h2, h3, h4, a, b => by
    simp at h2 h4
    subst h2; subst h4
    exact fun e => NdA_get h.1 (by simpa using h1) (by simpa using h3) b a e.symm
  | k1 :: ks, o1 :: m, h, i + 1, j + 1, k, k', o, o', hne, h1, h2, h3, h4, a, b => NdL_get (i := i) (j := j) h.2 (by omega) (by simpa using h1) (by simpa using h2) (by simpa using h3) (by simpa using h4) a b
theorem NdL_of : ∀ {g : List Nat} {m : Mem}, g.Nodup → NdL g m
  | [], m, _ => by simp [NdL]
  | _ :: _, [], _ => by simp [NdL]
  | k :: ks, o :: m, h => by
    rw [List.nodup_cons] at h
    refine ⟨?_, NdL_of h.2⟩
    have : ∀ (ks : List Nat) (m : Mem), k ∉ ks → NdA k o ks m := by
      intro ks
      induction ks with
      | nil => intro m _; simp [NdA]
      | cons k' ks ih =>
        intro m hk
        cases m with
        | nil => simp [NdA]
        | cons o' m =>
          simp only [List.mem_cons, not_or] at hk
          exact ⟨.inl hk.1, ih m hk.2⟩
    exact this ks m h.1
def FitM (g : List Nat) (m : Mem) : List Nat → Mem → Prop
  | [], [] => True
  | k :: ks, o' :: m' => (match m[k]? with | some o => ObLe g o' o | none => False) ∧ FitM g m ks m'
  | _, _ => False
def FitE (g : List Nat) (e : Env) : List (Nat × SV) → Prop
  | [] => True
  | (t, s) :: l => Le g s (e t) ∧ FitE g e l
def slots : List (Nat × SV) → Env
  | [] => fun _ => .any
  | (t, s) :: l => fun x => if x = t then s else slots l x
def KeepOk [Inp] (g : List Nat) : Prop := ∀ k, k < Inp.keep → g[k]? = some k
theorem keep0 [Inp] [I : Inp] {g : List Nat} (h : I.keep = 0) : KeepOk g := fun k hk => by rw [h] at hk; omega
def Fit [Inp] (e : Env) (m : Mem) (l : List (Nat × SV)) (m' : Mem) : Prop := ∃ g : List Nat, NdL g m' ∧ FitM g m g m' ∧ FitE g e l ∧ KeepOk g
theorem slots_le {g : List Nat} {e : Env} : ∀ {l : List (Nat × SV)}, FitE g e l → ∀ t, Le g (slots l t) (e t)
  | [], h, t => by simp [slots, Le]
  | (t', s) :: l, h, t => by
    simp only [FitE] at h
    simp only [slots]
    split
    · rename_i ht; subst ht; exact h.1
    · exact slots_le h.2 t
theorem FitM_get {g : List Nat} {m : Mem} : ∀ {ks : List Nat} {m' : Mem}, FitM g m ks m' → ks.length = m'.length ∧ ∀ (j : Nat) (o' : SObj), m'[j]? = some o' → ∃ k o, ks[j]? = some k ∧ m[k]? = some o ∧ ObLe g o' o
  | [], [], h => ⟨rfl, fun j o' hj => by simp at hj⟩
  | k :: ks, o :: m', h => by
    simp only [FitM] at h
    obtain ⟨h1, h2⟩ := FitM_get h.2
    refine ⟨by simp [h1], fun j o' hj => ?_⟩
    cases j with
    | zero =>
      simp at hj; subst hj
      have h0 := h.1
      split at h0
      · rename_i o2 ho; exact ⟨k, o2, rfl, ho, h0⟩
      · exact h0.elim
    | succ j =>
      obtain ⟨k2, o2, q1, q2, q3⟩ := h2 j o' (by simpa using hj)
      exact ⟨k2, o2, by simpa using q1, q2, q3⟩
  | [], _ :: _, h => by simp [FitM] at h
  | _ :: _, [], h => by simp [FitM] at h
def fitR (g : List Nat) (r : List Loc) : List Loc := g.map fun k => r.getD k ⟨0, 0, 0⟩
def fitF (g : List Nat) (m' : Mem) (F : Nat → List Nat) : Nat → List Nat := fun j => match m'[j]? with | some o' => (if o'.isA = true then (match g[j]? with | some k => F k | none => []) else []) | none => []
theorem fitR_get {g : List Nat} {r : List Loc} : ∀ (j k : Nat), g[j]? = some k → ∀ l, r[k]? = some l → (fitR g r)[j]? = some l := by
  intro j k hj l hl
  unfold fitR
  rw [List.getElem?_map, hj]
  simp [List.getD, hl]
theorem fit_hid [Inp] {g : List Nat} {m m' : Mem} {base : Nat → Prop} {w0 W : World} {r : List Loc} (hn : NdL g m') (hm : FitM g m g m') (hst : St base w0 r m W) {F : Nat → List Nat} (hF : Hid base r m W F) : Hid base (fitR g r) m' W (fitF g m' F) := by
  obtain ⟨h1, h2⟩ := FitM_get hm
  have hr := @fitR_get g r
  have hlen := hst.len
  refine ⟨fun j l' o' hl ho => ?_, fun j b hb => ?_, fun j b hb j' l' o' hl ho hal => ?_, fun j j' b hb hb' => ?_⟩
  · unfold fitF
    simp only [ho]
    cases ha : o'.isA with
    | false => exact HidIs.not ha
    | true =>
      obtain ⟨k, o, q1, q2, q3⟩ := h2 j o' ho
      have hk : k < r.length := by rw [hlen]; exact (List.getElem?_eq_some_iff.1 q2).1
      have e := hr j k q1 _ (List.getElem?_eq_getElem hk)
      rw [hl] at e; injection e with e; subst e
      simp only [if_true, q1]
      rcases q3 with rfl | ⟨_, _, q3⟩
      · simp at ha
      · exact q3.hid hr (hF.is k _ o (List.getElem?_eq_getElem hk) q2)
  · unfold fitF at hb
    split at hb
    · split at hb
      · split at hb
        · exact hF.base _ b hb
        · simp at hb
      · simp at hb
    · simp at hb
  · unfold fitF at hb
    split at hb
    · rename_i o1 ho1
      split at hb
      · rename_i ha
        split at hb
        · rename_i k hk
          obtain ⟨k2, p2, b1, b2, b3⟩ := h2 j' o' ho
          have hk2 : k2 < r.length := by rw [hlen]; exact (List.getElem?_eq_some_iff.1 b2).1
          have e2 := hr j' k2 b1 _ (List.getElem?_eq_getElem hk2)
          rw [hl] at e2; injection e2 with e2; subst e2
          refine hF.far k b hb k2 _ p2 (List.getElem?_eq_getElem hk2) b2 ?_
          rcases b3 with rfl | ⟨h, h', _⟩
          · simp at hal
          · rcases hal with hh | hh
            · exact .inl (h hh)
            · refine .inr fun e => hh ?_
              have := LeL_len h'
              rw [e] at this
              exact List.length_eq_zero_iff.1 this.symm
        · simp at hb
      · simp at hb
    · simp at hb
  · unfold fitF at hb hb'
    split at hb
    · rename_i o1 ho1
      split at hb
      · rename_i ha
        split at hb
        · rename_i k hk
          split at hb'
          · rename_i o2 ho2
            split at hb'
            · rename_i ha2
              split at hb'
              · rename_i k2 hk2
                have hkk := hF.apart k k2 b hb hb'
                by_cases hj : j = j'
                · exact hj
                · have own : ∀ (j : Nat) (o' : SObj), m'[j]? = some o' → o'.isA = true → o'.own = true := by
                    intro j o' ho ha
                    obtain ⟨k, o, q1, q2, q3⟩ := h2 j o' ho
                    rcases q3 with rfl | ⟨_, _, q3⟩
                    · simp at ha
                    · unfold SObj.isA at ha
                      split at ha
                      · rename_i A refs he
                        rw [he] at q3
                        cases hx : o.x.v with
                        | no => rw [hx] at q3; exact q3.elim
                        | map kt es => rw [hx] at q3; exact q3.elim
                        | abs B rs => rw [hx] at q3; exact q3.1
                      · cases ha
                  exact (NdL_get hn hj hk hk2 ho1 ho2 (.inl (own j o1 ho1 ha)) (.inl (own j' o2 ho2 ha2)) hkk).elim
              · simp at hb'
            · simp at hb'
          · simp at hb'
        · simp at hb
      · simp at hb
    · simp at hb
theorem fit_sound' [Inp] {N : Nat} {g : List Nat} {e : Env} {m m' : Mem} {l : List (Nat × SV)} {base : Nat → Prop} {w0 W : World} {r : List Loc} {ts : Array Value} (hn : NdL g m') (hm : FitM g m g m') (hst : St base w0 r m W) :
    St base w0 (fitR g r) m' W ∧ (∀ (j k : Nat), g[j]? = some k → ∀ l, r[k]? = some l → (fitR g r)[j]? = some l) ∧ (FitE g e l → EnvIs N r e ts → EnvIs N (fitR g r) (slots l) ts) := by
  obtain ⟨h1, h2⟩ := FitM_get hm
  have hr := @fitR_get g r
  refine ⟨⟨hst.low, hst.from_, hst.inp, by simp [fitR, h1], ?_, ?_, by
    obtain ⟨F, hF⟩ := hst.hid
    exact ⟨_, fit_hid hn hm hst hF⟩⟩, hr, fun hE he => ⟨he.size, fun t => (slots_le hE t).is hr (he.is t)⟩⟩
  · intro j l' o' hl ho
    obtain ⟨k, o, q1, q2, q3⟩ := h2 j o' ho
    have hlen := hst.len
    have hk : k < r.length := by rw [hlen]; exact (List.getElem?_eq_some_iff.1 q2).1
    have := hr j k q1 _ (List.getElem?_eq_getElem hk)
    rw [hl] at this
    injection this with this
    subst this
    have hO := hst.obj k _ o (List.getElem?_eq_getElem hk) q2
    rcases q3 with rfl | ⟨ho1, ho2, ho3⟩
    · exact .dead hO.lt
    · refine ⟨fun hm hal => ?_, by rw [← LeL_len ho2]; exact hO.fits, fun h => hO.own (ho1 h), hO.lt, ho3.is hr hO.ext ho2⟩
      obtain ⟨c, T, fr, g1, g2, g3, g4⟩ := hO.there (ho3.isM hm) (by
        rcases hal with h | h
        · exact .inl (ho1 h)
        · refine .inr fun e => h ?_
          have := LeL_len ho2
          rw [e] at this
          exact List.length_eq_zero_iff.1 this.symm)
      refine ⟨c, T, fr, g1, g2, ?_, fun h => g4 (ho1 h)⟩
      rw [← LeL_len ho2]
      exact LeL.is hr ho2 g3
  · intro j1 j2 l1 l2 o1 o2 hl1 hl2 ho1 ho2 hne hown hal
    obtain ⟨k1, p1, a1, a2, a3⟩ := h2 j1 o1 ho1
    obtain ⟨k2, p2, b1, b2, b3⟩ := h2 j2 o2 ho2
    have hlen := hst.len
    have hk1 : k1 < r.length := by rw [hlen]; exact (List.getElem?_eq_some_iff.1 a2).1
    have hk2 : k2 < r.length := by rw [hlen]; exact (List.getElem?_eq_some_iff.1 b2).1
    have e1 := hr j1 k1 a1 _ (List.getElem?_eq_getElem hk1)
    have e2 := hr j2 k2 b1 _ (List.getElem?_eq_getElem hk2)
    rw [hl1] at e1; injection e1 with e1; subst e1
    rw [hl2] at e2; injection e2 with e2; subst e2
    have hk : k1 ≠ k2 := NdL_get hn hne a1 b1 ho1 ho2 (.inl hown) hal
    have hown1 : p1.own = true := by
      rcases a3 with rfl | ⟨h, _⟩
      · cases hown
      · exact h hown
    have hal2 : p2.own = true ∨ p2.cells ≠ [] := by
      rcases b3 with rfl | ⟨h, h', _⟩
      · rcases hal with hh | hh
        · cases hh
        · exact (hh rfl).elim
      · rcases hal with hh | hh
        · exact .inl (h hh)
        · refine .inr fun e => hh ?_
          have := LeL_len h'
          rw [e] at this
          exact List.length_eq_zero_iff.1 this.symm
    exact hst.sep k1 k2 _ _ p1 p2 (List.getElem?_eq_getElem hk1) (List.getElem?_eq_getElem hk2) a2 b2 hk hown1 hal2
theorem fit_sound [Inp] {N : Nat} {g : List Nat} {e : Env} {m m' : Mem} {l : List (Nat × SV)} {base : Nat → Prop} {w0 W : World} {r : List Loc} {ts : Array Value} (hn : NdL g m') (hm : FitM g m g m') (hst : St base w0 r m W) :
    ∃ r', St base w0 r' m' W ∧ (∀ (j k : Nat), g[j]? = some k → ∀ l, r[k]? = some l → r'[j]? = some l) ∧ (FitE g e l → EnvIs N r e ts → EnvIs N r' (slots l) ts) := ⟨_, fit_sound' hn hm hst⟩
section
variable {P : Program} {N : Nat} {eff : List FuncId} {G : List CEntry}
theorem TX_loop [Inp] (hG : GOk P G) {X : Type} (L : X → List (Nat × SV)) (M : X → Mem) (u : X → Nat) (x0 : X) {body : XC} {e : Env} {m : Mem} {Q : Post} (h0 : Fit e m (L x0) (M x0))
    (round : ∀ x, evX P N eff G body (slots (L x)) (M x) (thenQ (fun e' m' => ∃ x', u x' < u x ∧ Fit e' m' (L x') (M x')) Q)) : TX P N eff (.loop body) e m Q := by
  intro c hc base w0 W r a hst he
  unfold compC at hc
  split at hc
  case h_7 c1 =>
    obtain ⟨x1, hx1, hc⟩ := Option.map_eq_some_iff.1 hc
    injection hc with hc; subst hc
    refine wp_loop_ghost (fun n a' W' => ∃ x r', n = u x ∧ St base w0 r' (M x) W' ∧ EnvIs N r' (slots (L x)) a'.tmps ∧ a'.defers = a.defers ∧ Kp r r') (u x0) ?_ ?_
    · obtain ⟨g, hn, hm, hE, hkg⟩ := h0
      obtain ⟨r', h1, h2, h3⟩ := fit_sound (N := N) (e := e) (l := L x0) (ts := a.tmps) hn hm hst
      exact ⟨x0, r', rfl, h1, h3 hE he, rfl, fun k l hk hl => h2 k k (hkg k hk) l hl⟩
    · rintro n a1 W1 ⟨x, r1, rfl, hst1, he1, hd1, hkp1⟩
      refine wp_mono (evX_sound hG _ (round x) c1 hx1 base w0 W1 r1 a1 hst1 he1) ?_
      rintro ex a2 W2 ⟨hgo, e2, m2, r2, hq, hst2, he2, hd2, hkp2⟩
      cases ex <;> simp only [Exit.then]
      case normal =>
        simp only [thenQ] at hq
        obtain ⟨x', hlt, g, hn, hm, hE, hkg⟩ := hq
        obtain ⟨r', h1, h2, h3⟩ := fit_sound (N := N) (e := e2) (l := L x') (ts := a2.tmps) hn hm hst2
        exact ⟨u x', hlt, x', r', rfl, h1, h3 hE he2, hd2.trans hd1, (hkp1.trans hkp2).trans fun k l hk hl => h2 k k (hkg k hk) l hl⟩
      case exit i => exact ⟨trivial, e2, m2, r2, hq, hst2, he2, hd2.trans hd1, hkp1.trans hkp2⟩
      case ret => exact ⟨trivial, e2, m2, r2, hq, hst2, he2, hd2.trans hd1, hkp1.trans hkp2⟩
      all_goals exact hgo.elim
  all_goals first | (cases hc; done) | (obtain ⟨x1, hx1, hc⟩ := Option.bind_eq_some_iff.1 hc; obtain ⟨x2, hx2, hc⟩ := Option.map_eq_some_iff.1 hc; cases hc; done) | (obtain ⟨x1, hx1, hc⟩ := Option.map_eq_some_iff.1 hc; cases hc; done) | (split at hc <;> first | (cases hc; done) | (obtain ⟨x1, hx1, hc⟩ := Option.map_eq_some_iff.1 hc; cases hc; done))
def unr [Inp] (P : Program) (N : Nat) (eff : List FuncId) (G : List CEntry) (body : XC) (Q : Post) : Nat → Env → Mem → Prop
  | 0, _, _ => False
  | n + 1, e, m => evX P N eff G body e m (thenQ (fun e m => unr P N eff G body Q n e m) Q)
end
end Go.Proofs.Ytcejgadbpahbmaa.Sz
end
section
namespace Go.Proofs.Ytcejgadbpahbmaa.Sz
open Go.RowKit
mutual
def SV.plain : SV → Bool
  | .v _ | .any | .emp | .zro => true
  | .ptr .. | .row .. | .mp .. => false
  | .agg cs | .tup cs | .fn _ cs | .bnd _ cs => plainL cs
def plainL : List SV → Bool
  | [] => true
  | c :: cs => c.plain && plainL cs
end
mutual
theorem plain_is {r r' : List Loc} : ∀ {s : SV} {u : Value}, s.plain = true → s.Is r u → s.Is r' u
  | .v x, u, h, hs => by simpa only [SV.Is] using hs
  | .any, u, h, hs => by simp only [SV.Is]
  | .emp, u, h, hs => by simpa only [SV.Is] using hs
  | .zro, u, h, hs => by simpa only [SV.Is] using hs
  | .mp _, u, h, hs => by simp [SV.plain] at h
  | .ptr _ _, u, h, hs => by simp [SV.plain] at h
  | .row _ _ _ _, u, h, hs => by simp [SV.plain] at h
  | .agg cs, u, h, hs => by
    simp only [SV.plain] at h; simp only [SV.Is] at hs ⊢
    obtain ⟨us, h1, h2⟩ := hs
    exact ⟨us, h1, plainL_is h h2⟩
  | .tup cs, u, h, hs => by
    simp only [SV.plain] at h; simp only [SV.Is] at hs ⊢
    obtain ⟨us, h1, h2⟩ := hs
    exact ⟨us, h1, plainL_is h h2⟩
  | .fn f cs, u, h, hs => by
    simp only [SV.plain] at h; simp only [SV.Is] at hs ⊢
    obtain ⟨us, h1, h2⟩ := hs
    exact ⟨us, h1, plainL_is h h2⟩
  | .bnd f cs, u, h, hs => by
    simp only [SV.plain] at h; simp only [SV.Is] at hs ⊢
    obtain ⟨us, h1, h2⟩ := hs
    exact ⟨us, h1, plainL_is h h2⟩
theorem plainL_is {r r' : List Loc} : ∀ {s : List SV} {u : List Value}, plainL s = true → SV.IsL r s u → SV.IsL r' s u
  | [], u, h, hs => by simpa only [SV.IsL] using hs
  | c :: cs, u, h, hs => by
    simp only [plainL, Bool.and_eq_true] at h; simp only [SV.IsL] at hs ⊢
    obtain ⟨x, y, h1, h2, h3⟩ := hs
    exact ⟨x, y, h1, plain_is h.1 h2, plainL_is h.2 h3⟩
end
mutual
def SV.up (d : Nat) : SV → SV
  | .v x => .v x
  | .any => .any
  | .emp => .emp
  | .zro => .zro
  | .mp k => .mp (d + k)
  | .ptr k o => .ptr (d + k) o
  | .row k o n sz => .row (d + k) o n sz
  | .agg cs => .agg (upL d cs)
  | .tup cs => .tup (upL d cs)
  | .fn f cs => .fn f (upL d cs)
  | .bnd f cs => .bnd f (upL d cs)
def upL (d : Nat) : List SV → List SV
  | [] => []
  | c :: cs => c.up d :: upL d cs
end
mutual
theorem up_is {r t : List Loc} : ∀ {s : SV} {u : Value}, s.Is t u → (s.up r.length).Is (r ++ t) u
  | .v x, u, hs => by simpa only [SV.up, SV.Is] using hs
  | .any, u, hs => by simp only [SV.up, SV.Is]
  | .emp, u, hs => by simpa only [SV.up, SV.Is] using hs
  | .zro, u, hs => by simpa only [SV.up, SV.Is] using hs
  | .mp k, u, hs => by
    simp only [SV.up, SV.Is] at hs ⊢
    obtain ⟨l, h1, h2⟩ := hs
    exact ⟨l, by rw [List.getElem?_append_right (by omega), Nat.add_sub_cancel_left]; exact h1, h2⟩
  | .ptr k o, u, hs => by
    simp only [SV.up, SV.Is] at hs ⊢
    obtain ⟨l, h1, h2⟩ := hs
    exact ⟨l, by rw [List.getElem?_append_right (by omega), Nat.add_sub_cancel_left]; exact h1, h2⟩
  | .row k o n sz, u, hs => by
    simp only [SV.up, SV.Is] at hs ⊢
    obtain ⟨l, c, h1, h2⟩ := hs
    exact ⟨l, c, by rw [List.getElem?_append_right (by omega), Nat.add_sub_cancel_left]; exact h1, h2⟩
  | .agg cs, u, hs => by
    simp only [SV.up, SV.Is] at hs ⊢
    obtain ⟨us, h1, h2⟩ := hs
    exact ⟨us, h1, upL_is h2⟩
  | .tup cs, u, hs => by
    simp only [SV.up, SV.Is] at hs ⊢
    obtain ⟨us, h1, h2⟩ := hs
    exact ⟨us, h1, upL_is h2⟩
  | .fn f cs, u, hs => by
    simp only [SV.up, SV.Is] at hs ⊢
    obtain ⟨us, h1, h2⟩ := hs
    exact ⟨us, h1, upL_is h2⟩
  | .bnd f cs, u, hs => by
    simp only [SV.up, SV.Is] at hs ⊢
    obtain ⟨us, h1, h2⟩ := hs
    exact ⟨us, h1, upL_is h2⟩
theorem upL_is {r t : List Loc} : ∀ {s : List SV} {u : List Value}, SV.IsL t s u → SV.IsL (r ++ t) (upL r.length s) u
  | [], u, hs => by simpa only [upL, SV.IsL] using hs
  | c :: cs, u, hs => by
    simp only [upL, SV.IsL] at hs ⊢
    obtain ⟨x, y, h1, h2, h3⟩ := hs
    exact ⟨x, y, h1, up_is h2, upL_is h3⟩
end
theorem upL_len (d : Nat) : ∀ s : List SV, (upL d s).length = s.length
  | [] => rfl
  | c :: cs => by simp [upL, upL_len d cs]
theorem upL_v (d : Nat) : ∀ l : List Value, upL d (l.map SV.v) = l.map SV.v
  | [] => rfl
  | x :: l => by simp only [List.map_cons, upL, SV.up, upL_v d l]
@[reducible] def Ext.up (d : Nat) (x : Ext) : Ext := match x.v with
  | .no => noExt
  | .map kt es => ⟨.map kt (es.map fun p => (p.1, p.2.up d))⟩
  | .abs A refs => ⟨.abs A (refs.map (d + ·))⟩
@[simp] theorem extUp_no {d : Nat} : Ext.up d noExt = noExt := rfl
def SObj.up (d : Nat) (o : SObj) : SObj := @SObj.mk o.own (upL d o.cells) (o.x.up d)
theorem mapsUp_is {r t : List Loc} {d : TypeDesc} : ∀ {n : Nat} {ps : List (Value × SV)} {es : List MapEntry}, MapIs t d n ps es → MapIs (r ++ t) d n (ps.map fun p => (p.1, p.2.up r.length)) es
  | n, [], es, h => h
  | n, p :: ps, es, h => by
    obtain ⟨e, t', rfl, h1, h2, h3, h4, h5⟩ := h
    exact ⟨e, _, rfl, h1, up_is h2, h3, h4, mapsUp_is h5⟩
theorem mapM_up {r t : List Loc} : ∀ {refs : List Nat} {ls : List Loc}, refs.mapM (t[·]?) = some ls → (refs.map (r.length + ·)).mapM ((r ++ t)[·]?) = some ls
  | [], ls, h => h
  | k :: ks, ls, h => by
    rw [List.mapM_cons] at h
    rw [List.map_cons, List.mapM_cons]
    obtain ⟨a, ha, h⟩ := Option.bind_eq_some_iff.1 h
    obtain ⟨b, hb, h⟩ := Option.bind_eq_some_iff.1 h
    have ha' : (r ++ t)[r.length + k]? = some a := by rw [List.getElem?_append_right (by omega), Nat.add_sub_cancel_left]; exact ha
    simp only [ha', mapM_up hb]
    exact h
theorem ExtIs.up {r t : List Loc} {w : World} {l : Loc} {o : SObj} (h : ExtIs t w l o) : ExtIs (r ++ t) w l (o.up r.length) := by
  obtain ⟨own, cells⟩ := o
  rename_i x
  obtain ⟨x⟩ := x
  cases x with
  | no => trivial
  | map kt ps =>
    obtain ⟨⟨h1, h2, h3⟩, es, h4, h5⟩ := (show (_ ∧ _ ∧ _) ∧ ∃ es, _ ∧ _ from h)
    simp only at h1
    subst h1
    exact (show (_ ∧ _ ∧ _) ∧ ∃ es, _ ∧ _ from ⟨⟨rfl, h2, h3⟩, es, by rw [List.length_map]; exact h4, mapsUp_is h5⟩)
  | abs A refs => exact h
theorem HidIs.up {r t : List Loc} {w : World} {l : Loc} {fp : List Nat} {o : SObj} (h : HidIs t w l fp o) : HidIs (r ++ t) w l fp (o.up r.length) := by
  obtain ⟨own, cells⟩ := o
  rename_i x
  obtain ⟨x⟩ := x
  cases x with
  | no => trivial
  | map kt ps => trivial
  | abs A refs =>
    obtain ⟨ls, h2, h3⟩ := (show ∃ ls, _ ∧ _ from h)
    exact (show ∃ ls, _ ∧ _ from ⟨ls, mapM_up h2, h3⟩)
theorem isM_up {d : Nat} {o : SObj} : (o.up d).isM = o.isM := by
  obtain ⟨own, cells⟩ := o
  rename_i x
  obtain ⟨x⟩ := x
  cases x <;> rfl
inductive XR where
  | tmp (t : Nat)
  | cell (t : Nat) (sz : Option Nat)
def compR (P : Program) : List ResultVar → Option (List XR)
  | [] => some []
  | .tmp t :: l => (compR P l).map (.tmp t :: ·)
  | .cell a t :: l => (szOf P t).bind fun z => (compR P l).map (.cell a z :: ·)
def evR1 (x : XR) (e : Env) (m : Mem) (K : SV → Prop) : Prop :=
  match x with
  | .tmp t => K (e t)
  | .cell t sz => match e t with | .ptr k o => (match m[k]? with | some ob => evPart ob.cells o sz K | none => False) | _ => False
def evRs : List XR → Env → Mem → (List SV → Prop) → Prop
  | [], _, _, K => K []
  | x :: l, e, m, K => evR1 x e m fun s => evRs l e m fun ss => K (s :: ss)
def pack : List SV → SV
  | [s] => s
  | ss => .tup ss
def evR (l : List XR) (e : Env) (m : Mem) (K : SV → Prop) : Prop := evRs l e m fun ss => K (pack ss)
section
variable {P : Program} {N : Nat} {eff : List FuncId} {G : List CEntry} {base : Nat → Prop} {w0 W : World} {r : List Loc} {m : Mem} {e : Env} {ts : Array Value}
def runR (ts : Array Value) : ResultVar → Sem Value
  | .tmp t => pure (ts.getD t undef)
  | .cell a t => do loadVar t (← asAddr (ts.getD a undef))
theorem results_eq (fn : Func) (ts : Array Value) : results fn ts = (do let vs ← fn.results.mapM (runR ts); pure (if h : vs.size = 1 then vs[0] else .tuple vs)) := by
  unfold results
  congr 1
theorem evR1_sound [Inp] {x : XR} {rv : ResultVar} {l : List XR} {rest : List ResultVar} {K : SV → Prop} (hc : compR P (rv :: rest) = some (x :: l)) (h : evR1 x e m K) (hst : St base w0 r m W) (he : EnvIs N r e ts) :
    compR P rest = some l ∧ ∃ s u, K s ∧ s.Is r u ∧ (runR ts rv).run P W = .ok u W := by
  cases rv with
  | tmp t =>
    simp only [compR] at hc
    obtain ⟨l', hl, hc⟩ := Option.map_eq_some_iff.1 hc
    injection hc with h1 h2; subst h1; subst h2
    exact ⟨hl, _, _, h, he.is t, rfl⟩
  | cell a t =>
    simp only [compR] at hc
    obtain ⟨z, hz, hc⟩ := Option.bind_eq_some_iff.1 hc
    obtain ⟨l', hl, hc⟩ := Option.map_eq_some_iff.1 hc
    injection hc with h1 h2; subst h1; subst h2
    refine ⟨hl, ?_⟩
    simp only [evR1] at h
    split at h
    · rename_i k o hk
      have h1 := he.is a
      rw [hk] at h1; simp only [SV.Is] at h1
      obtain ⟨lo, hlo, hu⟩ := h1
      split at h
      · rename_i ob hob
        obtain ⟨s, u, h2, h3, h4⟩ := load_sound (k0 := k) (P := P) hz h hlo (hst.obj k lo ob hlo hob)
        refine ⟨s, u, h2, h3, ?_⟩
        have := h4 W rfl
        simp only [Instr.loadAt, Instr.sureAddr, Sem.run_bind, Sem.run_pure, Result.andThen_ok] at this
        simp only [runR, hu, asAddr, Sem.run_bind, Sem.run_pure, Result.andThen_ok]
        exact this
      · exact h.elim
    · exact h.elim
theorem evRs_sound [Inp] : ∀ {rvs : List ResultVar} {l : List XR} {K : List SV → Prop}, compR P rvs = some l → evRs l e m K → St base w0 r m W → EnvIs N r e ts → ∃ ss us, K ss ∧ SV.IsL r ss us ∧ (rvs.mapM (runR ts)).run P W = .ok us W
  | [], l, K, hc, h, hst, he => by
    simp only [compR] at hc
    injection hc with hc; subst hc
    exact ⟨[], [], h, by simp [SV.IsL], by simp⟩
  | rv :: rest, [], K, hc, h, hst, he => by
    cases rv
    · simp [compR] at hc
    · simp only [compR] at hc
      obtain ⟨z, hz, hc⟩ := Option.bind_eq_some_iff.1 hc
      obtain ⟨l', hl, hc⟩ := Option.map_eq_some_iff.1 hc
      cases hc
  | rv :: rest, x :: l, K, hc, h, hst, he => by
    simp only [evRs] at h
    obtain ⟨hl, s, u, h1, h2, h3⟩ := evR1_sound hc h hst he
    obtain ⟨ss, us, h4, h5, h6⟩ := evRs_sound hl h1 hst he
    refine ⟨s :: ss, u :: us, h4, by simp only [SV.IsL]; exact ⟨u, us, rfl, h2, h5⟩, ?_⟩
    rw [List.mapM_cons]
    simp only [Sem.run_bind, h3, Result.andThen_ok, h6, Sem.run_pure]
theorem evR_sound [Inp] {fn : Func} {l : List XR} {K : SV → Prop} (hc : compR P fn.results.toList = some l) (h : evR l e m K) (hst : St base w0 r m W) (he : EnvIs N r e ts) : ∃ s u, K s ∧ s.Is r u ∧ (results fn ts).run P W = .ok u W := by
  obtain ⟨ss, us, h1, h2, h3⟩ := evRs_sound hc h hst he
  have hrun : (fn.results.mapM (runR ts)).run P W = .ok us.toArray W := by
    rw [Array.mapM_eq_mapM_toList]
    simp [h3]
  have hlen := IsL_len h2
  refine ⟨pack ss, if h : us.toArray.size = 1 then us.toArray[0] else .tuple us.toArray, h1, ?_, by rw [results_eq]; simp only [Sem.run_bind, hrun, Result.andThen_ok, Sem.run_pure]⟩
  unfold pack
  split
  · rename_i s
    simp only [SV.IsL] at h2
    obtain ⟨x, y, rfl, h4, rfl⟩ := h2
    simpa using h4
  · rename_i hne
    have : us.length ≠ 1 := by
      intro h
      rw [hlen] at h
      match ss, h with
      | [s], _ => exact hne s rfl
    rw [dif_neg (by simpa using this)]
    simp only [SV.Is]
    exact ⟨us, rfl, h2⟩
end
end Go.Proofs.Ytcejgadbpahbmaa.Sz
end
section
namespace Go.Proofs.Ytcejgadbpahbmaa.Sz
open Go.RowKit
def argSlots (k : Nat) : List SV → List (Nat × SV)
  | [] => []
  | s :: l => (k, s) :: argSlots (k + 1) l
theorem argSlots_is {r : List Loc} : ∀ {l : List SV} {us : List Value} (k : Nat) (pre post : Array Value), pre.size = k → SV.IsL r l us → ∀ t, (slots (argSlots k l) t).Is r ((pre ++ us.toArray ++ post).getD t undef)
  | [], us, k, pre, post, hp, h, t => by simp [argSlots, slots, SV.Is]
  | s :: l, us, k, pre, post, hp, h, t => by
    simp only [SV.IsL] at h
    obtain ⟨x, y, rfl, h1, h2⟩ := h
    simp only [argSlots, slots]
    split
    · rename_i ht
      subst ht
      rw [show (pre ++ (x :: y).toArray ++ post).getD t undef = x by
        have hlt : t < (pre ++ (x :: y).toArray ++ post).size := by simp; omega
        rw [Array.getD_eq_getD_getElem?, Array.getElem?_append_left (by simp; omega), Array.getElem?_append_right (by omega)]
        simp [hp]]
      exact h1
    · have := argSlots_is (k + 1) (pre.push x) post (by simp [hp]) h2 t
      rw [show pre ++ (x :: y).toArray ++ post = pre.push x ++ y.toArray ++ post by
        apply Array.ext'; simp]
      exact this
structure FnX (P : Program) (f : FuncId) (eff : List FuncId) (N : Nat) (x : XC) (rs : List XR) : Prop where
  fn : ∃ fn, P.funcs[f]? = some fn ∧ (fn.name == "runtime.NumGoroutine") = false ∧ fn.ntmps = N ∧ fn.body.bind (compC P N eff) = some x ∧ compR P fn.results.toList = some rs
theorem FnX.enter {P : Program} {f : FuncId} {eff : List FuncId} {N : Nat} {x : XC} {rs : List XR} (h : FnX P f eff N x rs) : Enterable P f := by
  obtain ⟨fn, h1, h2, h3, h5, h6⟩ := h
  obtain ⟨c, h4, h5⟩ := Option.bind_eq_some_iff.1 h5
  exact ⟨fn, h1, h2, by rw [h4]; rfl⟩
def EndsX : Exit → Prop
  | .normal | .ret => True
  | _ => False
section
variable {P : Program} {f : FuncId} {eff : List FuncId} {N : Nat} {x : XC} {rs : List XR} {G : List CEntry}
theorem FnX.calls [Inp] (hF : FnX P f eff N x rs) (hG : GOk P G) {base : Nat → Prop} {w0 W : World} {r : List Loc} {m : Mem} {args : List SV} {vs : List Value} (hst : St base w0 r m W) (ha : SV.IsL r args vs) (hlen : args.length ≤ N)
    {R : SV → Mem → Prop} (hev : evX P N eff G x (slots (argSlots 0 args)) m (fun ex e m => EndsX ex ∧ evR rs e m fun s => R s m)) :
    Calls P f vs.toArray W fun e W1 => ∃ s m' r' u, R s m' ∧ e = .returned u ∧ St base w0 r' m' W1 ∧ s.Is r' u ∧ Kp r r' := by
  obtain ⟨fn, h1, h2, h3, h5, h6⟩ := hF
  obtain ⟨c, h4, h5⟩ := Option.bind_eq_some_iff.1 h5
  refine calls_of_wp h1 h4 ?_
  have hvl := IsL_len ha
  have he : EnvIs N r (slots (argSlots 0 args)) (vs.toArray ++ Array.replicate (fn.ntmps - vs.toArray.size) undef) := by
    refine ⟨by simp; omega, fun t => ?_⟩
    have := argSlots_is 0 #[] (Array.replicate (fn.ntmps - vs.toArray.size) undef) rfl ha t
    simpa using this
  refine wp_mono (evX_sound hG x hev c h5 base w0 W r _ hst he) ?_
  rintro ex a1 W1 ⟨hgo, e1, m1, r1, ⟨hend, hq⟩, hst1, he1, hd, hkp⟩
  obtain ⟨s, u, g1, g2, g3⟩ := evR_sound h6 hq hst1 he1
  cases ex <;> simp only [bodyPost]
  case normal => exact ⟨hd, u, g3, s, m1, r1, u, g1, rfl, hst1, g2, hkp⟩
  case ret => exact ⟨hd, u, g3, s, m1, r1, u, g1, rfl, hst1, g2, hkp⟩
  all_goals first | exact hgo.elim | exact hend.elim
theorem view [Inp] {base : Nat → Prop} {w0 W : World} {r : List Loc} {m m0 : Mem} {g : List Nat} (hn : g.Nodup) (hm : FitM g m g m0) (hro : ∀ o ∈ m0, o.own = false) (hst : St base w0 r m W) :
    ∃ r0, St (fun k => W.heap.size ≤ k) W r0 m0 W ∧ ∀ {args0 args : List SV} {vs : List Value}, LeL g args0 args → SV.IsL r args vs → SV.IsL r0 args0 vs := by
  obtain ⟨r0, h1, h2, _⟩ := fit_sound (N := 0) (e := fun _ => .any) (l := []) (ts := #[]) (NdL_of hn) hm hst
  refine ⟨r0, ⟨Low.refl _ _, fun k hk => hk, fun a u ha => ⟨by have := hst.inp_at ha; have := cell_lt this; omega, hst.inp_at ha⟩, h1.len, fun k l o q1 q2 => ?_, fun k k' l l' o o' q1 q2 q3 q4 hne hown _ => ?_, fun _ => [], fun k l o q1 q2 => ?_, by simp, by simp, by simp⟩, fun h3 h4 => LeL.is h2 h3 h4⟩
  · obtain ⟨a, b, c, d, e⟩ := h1.obj k l o q1 q2
    exact ⟨a, b, fun h => (by rw [hro o (List.mem_of_getElem? q2)] at h; cases h), d, e⟩
  · rw [hro o (List.mem_of_getElem? q3)] at hown; cases hown
  · cases ha : o.isA with
    | false => exact HidIs.not ha
    | true =>
      have := (h1.obj k l o q1 q2).isA_own ha
      rw [hro o (List.mem_of_getElem? q2)] at this; cases this
theorem Contract.plain [Inp] (hF : FnX P f eff N x rs) (hG : GOk P G) (tr : Trans)
    (body : ∀ args m k, tr args m k → ∃ (g : List Nat) (m0 : Mem) (args0 : List SV), g.Nodup ∧ FitM g m g m0 ∧ (∀ o ∈ m0, o.own = false) ∧ LeL g args0 args ∧ args0.length ≤ N ∧
      evX P N eff G x (slots (argSlots 0 args0)) m0 (fun ex e m' => EndsX ex ∧ evR rs e m' fun s => s.plain = true ∧ k s m)) : Contract P f true tr := by
  refine ⟨hF.enter, fun args m k base w0 W r vs ht hst ha => ?_⟩
  obtain ⟨g, m0, args0, hn, hm, hro, hle, hlen, hev⟩ := body args m k ht
  obtain ⟨r0, hst0, hargs⟩ := view hn hm hro hst
  refine (hF.calls hG hst0 (hargs hle ha) hlen (R := fun s _ => s.plain = true ∧ k s m) hev).mono ?_
  rintro e W1 ⟨s, m', r', u, ⟨hp, hk⟩, rfl, hst1, hs, _⟩
  have hb : Below W.heap.size W W1 := hst1.low.below
  exact ⟨s, m, [], u, hk, rfl, by simpa using hst.below hb, plain_is hp hs, fun _ => Same.below hst hb⟩
mutual
theorem Le_plain (g : List Nat) : ∀ {s : SV}, s.plain = true → Le g s s
  | .v x, h => by simp only [Le]
  | .any, h => by simp only [Le]
  | .emp, h => by simp only [Le]
  | .zro, h => by simp only [Le]
  | .mp _, h => by simp [SV.plain] at h
  | .ptr _ _, h => by simp [SV.plain] at h
  | .row _ _ _ _, h => by simp [SV.plain] at h
  | .agg cs, h => by simp only [SV.plain] at h; simp only [Le]; exact LeL_plain g h
  | .tup cs, h => by simp only [SV.plain] at h; simp only [Le]; exact LeL_plain g h
  | .fn f cs, h => by simp only [SV.plain] at h; simp only [Le]; exact ⟨trivial, LeL_plain g h⟩
  | .bnd f cs, h => by simp only [SV.plain] at h; simp only [Le]; exact ⟨trivial, LeL_plain g h⟩
theorem LeL_plain (g : List Nat) : ∀ {s : List SV}, plainL s = true → LeL g s s
  | [], h => by simp only [LeL]
  | c :: cs, h => by simp only [plainL, Bool.and_eq_true] at h; simp only [LeL]; exact ⟨Le_plain g h.1, LeL_plain g h.2⟩
end
theorem plainL_v : ∀ l : List Value, plainL (l.map SV.v) = true
  | [] => rfl
  | x :: l => by simp only [List.map_cons, plainL, SV.plain, Bool.true_and]; exact plainL_v l
theorem Contract.plainArgs [Inp] (hF : FnX P f eff N x rs) (hG : GOk P G) (tr : Trans)
    (body : ∀ args m k, tr args m k → plainL args = true ∧ args.length ≤ N ∧ evX P N eff G x (slots (argSlots 0 args)) [] (fun ex e m' => EndsX ex ∧ evR rs e m' fun s => s.plain = true ∧ k s m)) : Contract P f true tr :=
  .plain hF hG tr fun args m k h => by
    obtain ⟨h1, h2, h3⟩ := body args m k h
    exact ⟨[], [], args, by simp, trivial, by simp, LeL_plain _ h1, h2, h3⟩
end
end Go.Proofs.Ytcejgadbpahbmaa.Sz
end
