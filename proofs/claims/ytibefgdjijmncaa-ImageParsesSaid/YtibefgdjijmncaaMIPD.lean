/- Walks and plain facts for the law ImageParses, part MIPD. No condition. -/
import Derived.Test.YtibefgdjijmncaaMIPC
import Derived.Laws.LoneSync
import Derived.Test.YtibefgdjijmncaaProg
import Derived.Tactics
import Derived.Tactics2
import Derived.Defers
import Derived.Laws.Pointers
import Derived.RegionTactic
import Derived.RegionCalls
set_option linter.unusedVariables false
set_option linter.unusedSimpArgs false
section
namespace Go.Proofs.Ytibefgdjijmncaa.Sz
open Go.RowKit
set_option maxHeartbeats 2000000
def killL : Mem → List Nat → Mem
  | m, [] => m
  | m, q :: qs => killL (m.set q ⟨false, []⟩) qs
def putL : Mem → List Nat → List SObj → Mem
  | m, q :: qs, o :: os => putL (m.set q o) qs os
  | m, _, _ => m
theorem putL_len : ∀ {qs : List Nat} {os : List SObj} {m : Mem}, (putL m qs os).length = m.length
  | [], _, m => by unfold putL; rfl
  | _ :: _, [], m => by unfold putL; rfl
  | q :: qs, o :: os, m => by unfold putL; rw [putL_len]; simp
theorem putL_not : ∀ {qs : List Nat} {os : List SObj} {m : Mem} {k : Nat}, k ∉ qs → (putL m qs os)[k]? = m[k]?
  | [], _, m, k, h => by unfold putL; rfl
  | _ :: _, [], m, k, h => by unfold putL; rfl
  | q :: qs, o :: os, m, k, h => by
    simp only [List.mem_cons, not_or] at h
    unfold putL
    rw [putL_not h.2, List.getElem?_set_ne (Ne.symm h.1)]
theorem putL_at : ∀ {qs : List Nat} {os : List SObj} {m : Mem} {i q : Nat} {o : SObj}, qs.Nodup → qs[i]? = some q → os[i]? = some o → q < m.length → (putL m qs os)[q]? = some o
  | [], _, m, i, q, o, _, h, _, _ => by simp at h
  | _ :: _, [], m, i, q, o, _, _, h, _ => by simp at h
  | q' :: qs, o' :: os, m, 0, q, o, hn, h1, h2, hq => by
    simp at h1 h2; subst h1; subst h2
    rw [List.nodup_cons] at hn
    unfold putL
    rw [putL_not hn.1, List.getElem?_set_self hq]
  | q' :: qs, o' :: os, m, i + 1, q, o, hn, h1, h2, hq => by
    rw [List.nodup_cons] at hn
    unfold putL
    exact putL_at hn.2 (by simpa using h1) (by simpa using h2) (by simpa using hq)
section
variable {base : Nat → Prop} {w0 W W1 : World} {r : List Loc} {m : Mem}
theorem St.killL [Inp] (qs : List Nat) (h : St base w0 r m W) : St base w0 r (Sz.killL m qs) W := by
  induction qs generalizing m with
  | nil => exact h
  | cons q qs ih => exact ih (h.kill1 q)
theorem killL_get : ∀ {qs : List Nat} {m : Mem} {k : Nat} {o : SObj}, (killL m qs)[k]? = some o → o = ⟨false, []⟩ ∨ (k ∉ qs ∧ m[k]? = some o)
  | [], m, k, o, h => .inr ⟨by simp, h⟩
  | q :: qs, m, k, o, h => by
    unfold Sz.killL at h
    rcases killL_get h with h | ⟨h1, h2⟩
    · exact .inl h
    · rw [List.getElem?_set] at h2
      by_cases e : q = k
      · subst e
        simp at h2
        exact .inl h2.2.symm
      · rw [if_neg e] at h2
        exact .inr ⟨by simp [h1, Ne.symm e], h2⟩
theorem knows_op {I : Inp} (hst : St base w0 r m W) {F : Nat → List Nat} (hF : Hid base r m W F) {g : List Nat} (hgo : ∀ x ∈ g, ∃ o, m[x]? = some o ∧ o.own = true) (n : Nat) {s : SV} {u : Value} (hs : s.Is r u) : Knows I (opI W (opB W r F g) n) (killL m g) s u := by
  have hst' := hst.killL g
  refine ⟨fun x hx => by subst hx; simpa only [SV.Is] using hs, fun ys hx => ?_, fun z k ys hsl => ?_⟩
  · subst hx
    simp only [SV.Is] at hs
    obtain ⟨us, rfl, hus⟩ := hs
    rw [isL_v_inv hus]
  · obtain ⟨p, c, us, rfl, hus, hlen, hcell⟩ := sl_cells hst' hsl hs
    have hxl := slOf_len hsl
    obtain rfl := isL_v_inv hus
    refine ⟨p, c, rfl, inpL_of (I := opI W (opB W r F g) n) (by simpa using hxl) fun hne => ?_⟩
    rcases hcell with ⟨a, rfl, hc⟩ | ⟨_, h0⟩
    · have hc := hc W (Same.refl _ _)
      obtain ⟨x, hx⟩ : ∃ x, us[0]? = some x := by
        cases us with
        | nil => exact (hne rfl).elim
        | cons x _ => exact ⟨x, rfl⟩
      have h0 := hc 0 x hx
      rw [add_zero_addr] at h0
      have hap : ¬ opB W r F g a.block := by
        have hlt := cell_lt h0
        unfold slOf at hsl
        split at hsl
        · rename_i kk o n1 sz
          simp only [SV.Is] at hs
          obtain ⟨l, cap, hl, _, _, hu⟩ := hs
          injection hu with hu; injection hu with hu
          subst hu
          split at hsl
          · split at hsl
            · rename_i ob hob
              split at hsl
              · injection hsl with hsl; injection hsl with h1 h2
                have hcn : ob.cells ≠ [] := by
                  intro he
                  rw [he] at h2
                  simp at h2
                  exact hne h2
                rcases killL_get hob with rfl | ⟨hk, hob⟩
                · exact (hcn rfl).elim
                · intro hb
                  rcases hb with hb | ⟨x, hx, hb⟩
                  · exact absurd hlt (by simp only; omega)
                  · obtain ⟨ox, hox, howx⟩ := hgo x hx
                    rcases hb with ⟨lx, h3, h4⟩ | hb
                    · exact hst.sep x kk lx l ox ob h3 hl hox hob (fun e => hk (e ▸ hx)) howx (.inr hcn) h4.symm
                    · exact hF.far x _ hb kk l ob hl hob (.inr hcn) rfl
              · cases hsl
            · cases hsl
          · cases hsl
        · rename_i p n1 c1
          obtain ⟨vs, h1, h2⟩ := Option.map_eq_some_iff.1 hsl
          injection h2 with h2 h3
          simp only [SV.Is] at hs
          injection hs with e1 e2 e3
          subst e1
          obtain ⟨hlen2, hat⟩ := inpL_some h1
          have hk : n1 * z ≠ 0 := by
            intro h0
            rw [h0] at hlen2
            rw [List.length_eq_zero_iff.1 hlen2] at h3
            exact hne (by simpa using h3.symm)
          obtain ⟨a', ha', _, hat⟩ := hat hk
          injection ha' with ha'
          subst ha'
          obtain ⟨y, hy⟩ : ∃ y, vs[0]? = some y := by
            cases vs with
            | nil => simp at hlen2; omega
            | cons y _ => exact ⟨y, rfl⟩
          have := hat 0 y hy
          rw [add_zero_addr] at this
          exact fun hb => (hst.inp _ _ this).1 (opB_base hst hF hgo hb)
        · injection hsl with hsl; injection hsl with h1 h2
          exact (hne (by simpa using h2.symm)).elim
        · injection hsl with hsl; injection hsl with h1 h2
          exact (hne (by simpa using h2.symm)).elim
        · cases hsl
      refine ⟨a, rfl, World.cell?_spot h0, fun i u hi => ?_⟩
      show (open Classical in if opB W r F g (a.add i).block then none else W.cell? (a.add i)) = some u
      have e : (a.add i).block = a.block := by unfold Addr.add; split <;> rfl
      rw [if_neg (by rw [e]; exact hap)]
      exact hc i u hi
    · exact (hne h0).elim
theorem knowsL_op {I : Inp} (hst : St base w0 r m W) {F : Nat → List Nat} (hF : Hid base r m W F) {g : List Nat} (hgo : ∀ x ∈ g, ∃ o, m[x]? = some o ∧ o.own = true) (n : Nat) : ∀ {ss : List SV} {us : List Value}, SV.IsL r ss us → KnowsL I (opI W (opB W r F g) n) (killL m g) ss us
  | [], us, h => by simpa only [SV.IsL, KnowsL] using h
  | s :: ss, us, h => by
    simp only [SV.IsL] at h
    obtain ⟨u, t, rfl, h1, h2⟩ := h
    exact ⟨u, t, rfl, knows_op hst hF hgo n h1, knowsL_op hst hF hgo n h2⟩
end
structure Out where
  h : List SV
  os : List RO
  H : Mem
  X : Mem
  s : SV
def Out.mem (o : Out) : Mem := opM o.h o.os o.H ++ o.X.map (SObj.up (opM o.h o.os o.H).length)
theorem ptr_inv0 {r : List Loc} {j o : Nat} {vs : List Value} {l : List SV} (h : SV.IsL r (.ptr j o :: l) vs) : ∃ lc t, r[j]? = some lc ∧ vs = .pointer (some ⟨lc.blk, lc.off + o, none⟩) :: t ∧ SV.IsL r l t := by
  simp only [SV.IsL, SV.Is] at h
  obtain ⟨u, t, rfl, ⟨lc, hl, rfl⟩, ht⟩ := h
  exact ⟨lc, t, hl, rfl, ht⟩
section
variable {P : Program} {f : FuncId} {eff : List FuncId} {N : Nat} {x : XC} {rs : List XR}
theorem Contract.methA [I : Inp] (hF : FnX P f eff N x rs) {G : Inp → List CEntry} (hG : ∀ J, @GOk J P (G J)) (tr : Trans)
    (body : ∀ args m k, tr args m k → ∃ (j n : Nat) (us : List SV) (Q : List SV → Mem → Prop) (refs : List Nat) (os : List RO), args = .ptr j 0 :: us ∧ m[j]? = some (absO (hide n Q) refs) ∧ (j :: refs).Nodup ∧ refs.length = n ∧ os.length = n ∧
      (∀ (i q : Nat) (o : RO), refs[i]? = some q → os[i]? = some o → m[q]? = some (o.out (j :: refs)) ∧ o.ok (n + 1)) ∧ us.length + 1 ≤ N ∧
      ∀ h H, Q h H → ∀ J : Inp, J.keep = n + 1 → ∀ vs, KnowsL I J (killL m (j :: refs)) us vs →
        @evX J P N eff (G J) x (slots (argSlots 0 (.ptr 0 0 :: vs.map SV.of))) (opM h os H) (fun ex e m' => EndsX ex ∧ evR rs e m' fun s => ∃ (c : Out) (Q' : List SV → Mem → Prop) (g : List Nat), NdL g c.mem ∧ FitM g m' g c.mem ∧ @KeepOk J g ∧ Le g (c.s.up (opM c.h c.os c.H).length) s ∧
          c.os.length = n ∧ (∀ o ∈ c.os, o.ok (n + 1)) ∧ Q' c.h (c.H ++ c.X.map fun _ => ⟨false, []⟩) ∧ (∀ o ∈ c.H, o.own = true ∨ o.cells = []) ∧ (∀ o ∈ c.X, o.own = true) ∧
          k (c.s.up m.length) (putL m (j :: refs) (absO (hide n Q') refs :: c.os.map (RO.out (j :: refs))) ++ c.X.map (SObj.up m.length)))) : Contract P f false tr := by
  refine ⟨hF.enter, fun args m k base w0 W r vs ht hst ha => ?_⟩
  obtain ⟨j, n, us, Q, refs, os, rfl, hm, hnd, hrn, hon, hos, hlen, hev⟩ := body args m k ht
  obtain ⟨l, vs, hl, rfl, ha2⟩ := ptr_inv0 ha
  obtain ⟨F, hFF⟩ := @St.hid I _ _ _ _ _ hst
  obtain ⟨h, H, ls, rH, hQ, hlsn, hrH, hls, hop⟩ := @St.open_ _ _ _ _ _ I hst F hFF j n l Q refs os hl hm hnd hrn hon hos
  have hgo : ∀ x ∈ j :: refs, ∃ o, m[x]? = some o ∧ o.own = true := by
    intro x hx
    rcases List.mem_cons.1 hx with rfl | hx
    · exact ⟨_, hm, rfl⟩
    · obtain ⟨i, hi⟩ := List.getElem?_of_mem hx
      obtain ⟨o, ho⟩ : ∃ o, os[i]? = some o := ⟨_, List.getElem?_eq_getElem (by have := (List.getElem?_eq_some_iff.1 hi).1; omega)⟩
      exact ⟨_, (hos i x o hi ho).1, RO.out_own⟩
  have hk := knowsL_op (I := I) hst hFF hgo (n + 1) ha2
  have hvl := IsL_len ha2
  have hargs : @SV.IsL (l :: (ls ++ rH)) (.ptr 0 0 :: vs.map SV.of) (.pointer (some ⟨l.blk, l.off + 0, none⟩) :: vs) := by
    simp only [SV.IsL, SV.Is]
    exact ⟨_, _, rfl, ⟨l, rfl, rfl⟩, isL_of vs⟩
  refine (@FnX.calls P f eff N x rs (G (opI W (opB W r F (j :: refs)) (n + 1))) (opI W (opB W r F (j :: refs)) (n + 1)) hF (hG _) _ _ _ _ _ _ _ hop hargs (by simp; omega) _ (hev h H hQ _ rfl vs hk)).mono ?_
  rintro e W1 ⟨s, m', r', u, ⟨c, Q', g, hnl, hfm, hkg, hle, c1, c2, c3, c4, c5, hkk⟩, rfl, hst1, hs, hkp⟩
  obtain ⟨r2, hst2, hr2, _⟩ := @fit_sound (opI W (opB W r F (j :: refs)) (n + 1)) 0 _ (fun _ => .any) _ _ [] _ _ _ _ #[] hnl hfm hst1
  -- the first locations are kept
  have hlen2 : r2.length = c.mem.length := @St.len (opI W (opB W r F (j :: refs)) (n + 1)) _ _ _ _ _ hst2
  have hkeep : ∀ q, q < n + 1 → r2[q]? = (l :: (ls ++ rH))[q]? := by
    intro q hq
    obtain ⟨lq, hlq⟩ : ∃ lq, (l :: (ls ++ rH))[q]? = some lq := ⟨_, List.getElem?_eq_getElem (by simp; omega)⟩
    rw [hlq]
    exact hr2 q q (hkg q hq) lq (hkp q lq hq hlq)
  have hopl : (opM c.h c.os c.H).length = n + 1 + c.H.length := by simp [opM, c1]; omega
  have hml : c.mem.length = n + 1 + c.H.length + c.X.length := by simp [Out.mem, hopl]
  obtain ⟨rH2, rX2, hsplit, hrH2⟩ : ∃ rH2 rX2, r2 = (l :: (ls ++ rH2)) ++ rX2 ∧ rH2.length = c.H.length := by
    refine ⟨(r2.drop (n + 1)).take c.H.length, (r2.drop (n + 1)).drop c.H.length, ?_, by simp; omega⟩
    have e1 : r2.take (n + 1) = l :: ls := by
      apply List.ext_getElem?
      intro q
      rw [List.getElem?_take]
      split
      · rename_i hq
        rw [hkeep q hq]
        cases q with
        | zero => rfl
        | succ q => rw [List.getElem?_cons_succ, List.getElem?_cons_succ, List.getElem?_append_left (by omega)]
      · rename_i hq
        rw [List.getElem?_eq_none (by simp; omega)]
    calc r2 = r2.take (n + 1) ++ r2.drop (n + 1) := (List.take_append_drop _ _).symm
      _ = (l :: ls) ++ ((r2.drop (n + 1)).take c.H.length ++ (r2.drop (n + 1)).drop c.H.length) := by rw [e1, List.take_append_drop]
      _ = _ := by simp
  subst hsplit
  have hj : j < m.length := (List.getElem?_eq_some_iff.1 hm).1
  have hsh := @St.shutX _ _ _ _ _ _ I hst F hFF j n l _ Q' refs os c.os hl hm hnd hrn hon hos ls rH2 rX2 hls _ c.h c.H c.X c5 hrH2 hst2 c1 c2 c3 c4
    (putL m (j :: refs) (absO (hide n Q') refs :: c.os.map (RO.out (j :: refs)))) putL_len (putL_at (i := 0) hnd rfl rfl hj) (fun i q o hq ho => putL_at (i := i + 1) hnd (by simpa using hq) (by simp [ho]) (by
      obtain ⟨o1, ho1⟩ : ∃ o, os[i]? = some o := ⟨_, List.getElem?_eq_getElem (by have := (List.getElem?_eq_some_iff.1 ho).1; omega)⟩
      exact (List.getElem?_eq_some_iff.1 (hos i q o1 hq ho1).1).1)) (fun k hk => putL_not hk)
  have hml2 : r.length = m.length := @St.len I _ _ _ _ _ hst
  refine ⟨_, _, rX2, u, hkk, rfl, hsh, ?_, fun h => by cases h⟩
  have hu := Le.is hr2 hle hs
  have hRl : (opM c.h c.os c.H).length = (l :: (ls ++ rH2)).length := by rw [hopl]; simp; omega
  rw [hRl] at hu
  have := up_is (r := r) (un_is hu)
  rw [hml2] at this
  exact this
theorem kept_ext' [Inp] {r r' : List Loc} {n : Nat} (h : Inp.keep = n) (hn : n = r.length) (hk : Kp r r') : ∃ t, r' = r ++ t := by
  refine ⟨r'.drop r.length, ?_⟩
  apply List.ext_getElem?
  intro k
  by_cases hlt : k < r.length
  · rw [List.getElem?_append_left hlt, List.getElem?_eq_getElem hlt]
    exact hk k _ (by omega) (List.getElem?_eq_getElem hlt)
  · rw [List.getElem?_append_right (by omega), List.getElem?_drop]
    congr 1
    omega
theorem Contract.full [I : Inp] (hF : FnX P f eff N x rs) {G : Inp → List CEntry} (hG : ∀ J, @GOk J P (G J)) (tr : Trans)
    (body : ∀ args m k, tr args m k → args.length ≤ N ∧ ∀ J : Inp, J.keep = m.length → J.at_ = I.at_ → @evX J P N eff (G J) x (slots (argSlots 0 args)) m (fun ex e m' => EndsX ex ∧ evR rs e m' fun s => k s m')) : Contract P f false tr := by
  refine ⟨hF.enter, fun args m k base w0 W r vs ht hst ha => ?_⟩
  obtain ⟨hlen, hev⟩ := body args m k ht
  have hl := @St.len I _ _ _ _ _ hst
  have hst2 : @St ⟨I.at_, m.length⟩ base w0 r m W := @St.mk ⟨I.at_, m.length⟩ _ _ _ _ _ (@St.low I _ _ _ _ _ hst) (@St.from_ I _ _ _ _ _ hst) (@St.inp I _ _ _ _ _ hst) hl (@St.obj I _ _ _ _ _ hst) (@St.sep I _ _ _ _ _ hst) (@St.hid I _ _ _ _ _ hst)
  refine (@FnX.calls P f eff N x rs (G ⟨I.at_, m.length⟩) ⟨I.at_, m.length⟩ hF (hG _) _ _ _ _ _ _ _ hst2 ha hlen (fun s m' => k s m') (hev ⟨I.at_, m.length⟩ rfl rfl)).mono ?_
  rintro e W1 ⟨s, m', r', u, hk, rfl, hst1, hs, hkp⟩
  obtain ⟨t, rfl⟩ := @kept_ext' ⟨I.at_, m.length⟩ _ _ _ rfl hl.symm hkp
  exact ⟨s, m', t, u, hk, rfl, @St.mk I _ _ _ _ _ (@St.low ⟨I.at_, m.length⟩ _ _ _ _ _ hst1) (@St.from_ ⟨I.at_, m.length⟩ _ _ _ _ _ hst1) (@St.inp ⟨I.at_, m.length⟩ _ _ _ _ _ hst1) (@St.len ⟨I.at_, m.length⟩ _ _ _ _ _ hst1) (@St.obj ⟨I.at_, m.length⟩ _ _ _ _ _ hst1) (@St.sep ⟨I.at_, m.length⟩ _ _ _ _ _ hst1) (@St.hid ⟨I.at_, m.length⟩ _ _ _ _ _ hst1), hs, fun h => by cases h⟩
end
theorem killL_not : ∀ {qs : List Nat} {m : Mem} {k : Nat}, k ∉ qs → (killL m qs)[k]? = m[k]?
  | [], m, k, h => rfl
  | q :: qs, m, k, h => by
    simp only [List.mem_cons, not_or] at h
    unfold killL
    rw [killL_not h.2, List.getElem?_set_ne (Ne.symm h.1)]
theorem killL_len : ∀ {qs : List Nat} {m : Mem}, (killL m qs).length = m.length
  | [], m => rfl
  | q :: qs, m => by unfold killL; rw [killL_len]; simp
section
variable {base : Nat → Prop} {w0 W : World} {r : List Loc} {m : Mem}
theorem St.seal [I : Inp] (hst : St base w0 r m W) {j n : Nat} {refs gh : List Nat} {h : List SV} {H : Mem} {Q : List SV → Mem → Prop} (hrn : refs.length = n) (hnd : (j :: (refs ++ gh)).Nodup) (hfm : FitM (j :: (refs ++ gh)) m (j :: (refs ++ gh)) (hidM n h H)) (hQ : Q h H) (hown : ∀ o ∈ H, o.own = true ∨ o.cells = []) :
    St base w0 r ((Sz.killL m gh).set j (absO (hide n Q) refs)) W := by
  obtain ⟨F, hF⟩ := hst.hid
  obtain ⟨hstR, hrR, _⟩ := fit_sound' (N := 0) (e := fun _ => .any) (l := []) (ts := #[]) (NdL_of hnd) hfm hst
  have hF2 := fit_hid (NdL_of hnd) hfm hst hF
  have hF2d : ∀ k, ∀ b ∈ fitF (j :: (refs ++ gh)) (hidM n h H) F k, ∃ q o, (j :: (refs ++ gh))[k]? = some q ∧ (hidM n h H)[k]? = some o ∧ o.isA = true ∧ b ∈ F q := by
    intro k b hb
    unfold fitF at hb
    split at hb
    · rename_i o ho
      split at hb
      · rename_i ha
        split at hb
        · rename_i q hq
          exact ⟨q, o, hq, ho, ha, hb⟩
        · simp at hb
      · simp at hb
    · simp at hb
  generalize fitF (j :: (refs ++ gh)) (hidM n h H) F = F2 at hF2 hF2d
  generalize fitR (j :: (refs ++ gh)) r = R at hstR hrR hF2
  obtain ⟨hgl, hgo⟩ := FitM_get hfm
  have hHl : gh.length = H.length := by simp [hidM, hrn] at hgl; omega
  obtain ⟨o0, q0, hj0, hj1, hj2⟩ := hgo 0 _ hidM_0
  simp at hj0; subst hj0
  have hj : j < m.length := (List.getElem?_eq_some_iff.1 hj1).1
  have how0 : q0.own = true := by
    rcases hj2 with hj2 | ⟨hj2, _⟩
    · cases hj2
    · exact hj2 rfl
  have hlen := hst.len
  obtain ⟨l, hl⟩ : ∃ l, r[j]? = some l := ⟨_, List.getElem?_eq_getElem (by omega)⟩
  have hRlen : R.length = n + 1 + H.length := by rw [hstR.len]; simp [hidM]; omega
  have hR0 : R[0]? = some l := hrR 0 j rfl l hl
  have nd2 := hnd
  rw [List.nodup_cons, List.nodup_append] at nd2
  obtain ⟨nj, nr, ng, nrg⟩ := nd2
  have njr : j ∉ refs := fun e => nj (List.mem_append_left _ e)
  have njg : j ∉ gh := fun e => nj (List.mem_append_right _ e)
  obtain ⟨ls, rH, hR, hlsn⟩ : ∃ ls rH, R = l :: (ls ++ rH) ∧ ls.length = n := by
    refine ⟨(R.drop 1).take n, (R.drop 1).drop n, ?_, by simp; omega⟩
    rw [List.take_append_drop]
    cases R with
    | nil => simp at hRlen; omega
    | cons a R => simp at hR0; subst hR0; rfl
  have hrH : rH.length = H.length := by rw [hR] at hRlen; simp at hRlen; omega
  -- the locations of what it leads to
  have hls : refs.mapM (r[·]?) = some ls := by
    refine mapM_some (by omega) fun i q lq hq hlq => ?_
    have hi : i < n := by have := (List.getElem?_eq_some_iff.1 hq).1; omega
    obtain ⟨o2, p2, b1, b2, b3⟩ := hgo (i + 1) _ (hidM_ref hi)
    rw [List.getElem?_cons_succ, List.getElem?_append_left (by omega), hq] at b1
    injection b1 with b1; subst b1
    obtain ⟨lx, hlx⟩ : ∃ lx, r[q]? = some lx := ⟨_, List.getElem?_eq_getElem (by have := (List.getElem?_eq_some_iff.1 b2).1; omega)⟩
    have e := hrR (i + 1) q (by rw [List.getElem?_cons_succ, List.getElem?_append_left (by omega)]; exact hq) lx hlx
    rw [hR, refs_get hlsn hi, hlq] at e
    injection e with e; subst e; exact hlx
  subst hR
  have own0 : ∀ (k : Nat) (o : SObj), (hidM n h H)[k]? = some o → o.own = true → k = 0 ∨ n < k := by
    intro k o hk ho
    rcases hidM_cases hk with ⟨rfl, _⟩ | ⟨i, _, rfl, rfl⟩ | ⟨i, rfl, _⟩
    · exact .inl rfl
    · simp at ho
    · exact .inr (by omega)
  -- what a hidden object was
  have was : ∀ (k : Nat) (lk : Loc) (o : SObj), (l :: (ls ++ rH))[k]? = some lk → (hidM n h H)[k]? = some o → n < k → ∃ (q : Nat) (o1 : SObj), q ∈ gh ∧ r[q]? = some lk ∧ m[q]? = some o1 ∧ (o.own = true → o1.own = true) := by
    intro k lk o h1 h2 hk
    obtain ⟨q, o1, b1, b2, b3⟩ := hgo k o h2
    have hqr : q ∈ gh := by
      obtain ⟨k', rfl⟩ : ∃ k', k = k' + 1 := ⟨k - 1, by omega⟩
      rw [List.getElem?_cons_succ, List.getElem?_append_right (by omega)] at b1
      exact List.mem_of_getElem? b1
    obtain ⟨lx, hlx⟩ : ∃ lx, r[q]? = some lx := ⟨_, List.getElem?_eq_getElem (by have := (List.getElem?_eq_some_iff.1 b2).1; omega)⟩
    have e := hrR k q b1 lx hlx
    rw [h1] at e; injection e with e; subst e
    refine ⟨q, o1, hqr, hlx, b2, fun ho => ?_⟩
    rcases b3 with rfl | ⟨b3, _⟩
    · simp at ho
    · exact b3 ho
  let fpN : List Nat := (List.range (l :: (ls ++ rH)).length).flatMap fun k => if n < k then (match (l :: (ls ++ rH))[k]?, (hidM n h H)[k]? with | some lk, some o => if o.own = true then [lk.blk] else [] | _, _ => []) ++ F2 k else []
  have fpm : ∀ b, b ∈ fpN ↔ ∃ k, k < (l :: (ls ++ rH)).length ∧ n < k ∧ ((∃ lk o, (l :: (ls ++ rH))[k]? = some lk ∧ (hidM n h H)[k]? = some o ∧ o.own = true ∧ b = lk.blk) ∨ b ∈ F2 k) := by
    intro b
    simp only [fpN, List.mem_flatMap, List.mem_range]
    constructor
    · rintro ⟨k, hk, hb⟩
      split at hb
      · rename_i hn
        refine ⟨k, hk, hn, ?_⟩
        rcases List.mem_append.1 hb with hb | hb
        · split at hb
          · rename_i lk o h1 h2
            split at hb
            · rename_i ho
              simp at hb
              exact .inl ⟨lk, o, h1, h2, ho, hb⟩
            · simp at hb
          · simp at hb
        · exact .inr hb
      · simp at hb
    · rintro ⟨k, hk, hn, hb⟩
      refine ⟨k, hk, ?_⟩
      rw [if_pos hn]
      rcases hb with ⟨lk, o, h1, h2, ho, rfl⟩ | hb
      · simp [h1, h2, ho]
      · simp [hb]
  have F2q : ∀ k, ∀ b ∈ F2 k, n < k ∧ ∃ q ∈ gh, b ∈ F q := by
    intro k b hb
    obtain ⟨q, o, b1, b2, b3, b4⟩ := hF2d k b hb
    have hk : n < k := by
      rcases hidM_cases b2 with ⟨rfl, rfl⟩ | ⟨i, _, rfl, rfl⟩ | ⟨i, rfl, _⟩
      · simp at b3
      · simp at b3
      · omega
    refine ⟨hk, q, ?_, b4⟩
    obtain ⟨k', rfl⟩ : ∃ k', k = k' + 1 := ⟨k - 1, by omega⟩
    rw [List.getElem?_cons_succ, List.getElem?_append_right (by omega)] at b1
    exact List.mem_of_getElem? b1
  have fpq : ∀ b, b ∈ fpN → ∃ q ∈ gh, (∃ lq oq, r[q]? = some lq ∧ m[q]? = some oq ∧ oq.own = true ∧ b = lq.blk) ∨ b ∈ F q := by
    intro b hb
    obtain ⟨k, _, hk, hb⟩ := (fpm b).1 hb
    rcases hb with ⟨lk, o, h1, h2, ho, rfl⟩ | hb
    · obtain ⟨q, o1, hq, hlq, hmq, how⟩ := was k lk o h1 h2 hk
      exact ⟨q, hq, .inl ⟨lk, o1, hlq, hmq, how ho, rfl⟩⟩
    · obtain ⟨_, q, hq, hb⟩ := F2q k b hb
      exact ⟨q, hq, .inr hb⟩
  have hideN : HideIs n Q ls l fpN W h H rH F2 := by
    refine ⟨hQ, hlsn, hrH, hown, fun k lk o h1 h2 hk => ?_, fun k lk o h1 h2 hk ho => ?_, fun k k' l1 l2 o o' h1 h1' h2 h2' hne ho ho' => hstR.sep k k' l1 l2 o o' h1 h1' h2 h2' hne ho (.inl ho'), fun k lk o h1 h2 => hF2.is k lk o h1 h2, fun k b hb => ?_, fun k b hb k' l1 o h1 h2 ho => hF2.far k b hb k' l1 o h1 h2 (.inl ho), hF2.apart⟩
    · have hO := hstR.obj k lk o h1 h2
      refine ⟨hO.there, hO.fits, fun ho => ?_, hO.lt, hO.ext⟩
      rcases hk with rfl | hk
      · simp at h1; exact .inl (by rw [h1])
      · exact .inr ((fpm _).2 ⟨k, (List.getElem?_eq_some_iff.1 h1).1, hk, .inl ⟨lk, o, h1, h2, ho, rfl⟩⟩)
    · exact (fpm _).2 ⟨k, (List.getElem?_eq_some_iff.1 h1).1, hk, .inl ⟨lk, o, h1, h2, ho, rfl⟩⟩
    · obtain ⟨hk, _⟩ := F2q k b hb
      obtain ⟨q, o, b1, b2, _⟩ := hF2d k b hb
      refine ⟨hk, (fpm b).2 ⟨k, ?_, hk, .inr hb⟩⟩
      have := (List.getElem?_eq_some_iff.1 b2).1
      rw [← hstR.len] at this
      exact this
  have get' : ∀ (k : Nat) (o : SObj), ((Sz.killL m gh).set j (absO (hide n Q) refs))[k]? = some o → (k = j ∧ o = absO (hide n Q) refs) ∨ (k ≠ j ∧ k ∈ gh ∧ o = ⟨false, []⟩) ∨ (k ≠ j ∧ k ∉ gh ∧ m[k]? = some o) := by
    intro k o hk
    rw [List.getElem?_set] at hk
    by_cases e : j = k
    · subst e
      simp [killL_len, hj] at hk
      exact .inl ⟨rfl, hk.symm⟩
    · rw [if_neg e] at hk
      by_cases hg : k ∈ gh
      · rcases killL_get hk with hk | ⟨hk, _⟩
        · exact .inr (.inl ⟨Ne.symm e, hg, hk⟩)
        · exact (hk hg).elim
      · rw [killL_not hg] at hk
        exact .inr (.inr ⟨Ne.symm e, hg, hk⟩)
  classical
  refine ⟨hst.low, hst.from_, hst.inp, by simp [killL_len, hlen], fun k lk o h1 h2 => ?_, fun k k' l1 l2 o o' h1 h1' h2 h2' hne ho hal => ?_, fun k => if k = j then fpN else if k ∈ gh then [] else F k, fun k lk o h1 h2 => ?_, fun k b hb => ?_, fun k b hb k' lk o h1 h2 hal => ?_, fun k k' b hb hb' => ?_⟩
  · rcases get' k o h2 with ⟨rfl, rfl⟩ | ⟨hk, hg, rfl⟩ | ⟨hk, hg, h3⟩
    · rw [hl] at h1; injection h1 with h1; subst h1
      have hO := hstR.obj 0 l _ rfl hidM_0
      refine ⟨fun _ _ => ?_, Nat.zero_le _, fun _ => hO.own rfl, hO.lt, rfl⟩
      obtain ⟨c, T, fr, g1, g2, g3, g4⟩ := hO.there rfl (.inl rfl)
      exact ⟨c, T, fr, g1, g2, by simp [absO, SV.IsL], fun _ => g4 rfl⟩
    · exact .dead (hst.locs lk (List.mem_of_getElem? h1))
    · exact hst.obj k lk o h1 h3
  · have old : ∀ (k : Nat) (o : SObj), ((Sz.killL m gh).set j (absO (hide n Q) refs))[k]? = some o → (o.own = true ∨ o.cells ≠ []) → ∃ o0, m[k]? = some o0 ∧ (o.own = true → o0.own = true) ∧ (o0.own = true ∨ o0.cells ≠ []) := by
      intro k o hk hal
      rcases get' k o hk with ⟨rfl, rfl⟩ | ⟨_, _, rfl⟩ | ⟨_, _, h3⟩
      · exact ⟨q0, hj1, fun _ => how0, .inl how0⟩
      · simp at hal
      · exact ⟨o, h3, id, hal⟩
    obtain ⟨o1, a1, a2, a3⟩ := old k o h2 (.inl ho)
    obtain ⟨o2, b1, b2, b3⟩ := old k' o' h2' hal
    exact hst.sep k k' l1 l2 o1 o2 h1 h1' a1 b1 hne (a2 ho) b3
  · rcases get' k o h2 with ⟨rfl, rfl⟩ | ⟨hk, hg, rfl⟩ | ⟨hk, hg, h3⟩
    · rw [hl] at h1; injection h1 with h1; subst h1
      simp only [if_true]
      rw [absO_hid]
      exact ⟨ls, hls, h, H, rH, _, hideN⟩
    · exact HidIs.not rfl
    · simp only [if_neg hk, if_neg hg]
      exact hF.is k lk o h1 h3
  · split at hb
    · obtain ⟨q, hq, hb⟩ := fpq b hb
      rcases hb with ⟨lq, oq, a1, a2, a3, rfl⟩ | hb
      · exact ⟨(hst.obj q lq oq a1 a2).own a3, (hst.obj q lq oq a1 a2).lt⟩
      · exact hF.base q b hb
    · split at hb
      · simp at hb
      · exact hF.base k b hb
  · split at hb
    · rename_i hkj
      subst hkj
      obtain ⟨q, hq, hb⟩ := fpq b hb
      have hqj : q ≠ k := fun e => njg (e ▸ hq)
      rcases get' k' o h2 with ⟨rfl, rfl⟩ | ⟨hk', hg', rfl⟩ | ⟨hk', hg', h3⟩
      · rw [hl] at h1; injection h1 with h1; subst h1
        rcases hb with ⟨lq, oq, a1, a2, a3, rfl⟩ | hb
        · exact fun e => hst.sep q k' lq l oq q0 a1 hl a2 hj1 hqj a3 (.inl how0) e.symm
        · exact hF.far q b hb k' l q0 hl hj1 (.inl how0)
      · simp at hal
      · rcases hb with ⟨lq, oq, a1, a2, a3, rfl⟩ | hb
        · exact fun e => hst.sep q k' lq lk oq o a1 h1 a2 h3 (fun e => hg' (e ▸ hq)) a3 hal e.symm
        · exact hF.far q b hb k' lk o h1 h3 hal
    · split at hb
      · simp at hb
      · rename_i hkj hkg
        rcases get' k' o h2 with ⟨rfl, rfl⟩ | ⟨hk', hg', rfl⟩ | ⟨hk', hg', h3⟩
        · rw [hl] at h1; injection h1 with h1; subst h1
          exact hF.far k b hb k' l q0 hl hj1 (.inl how0)
        · simp at hal
        · exact hF.far k b hb k' lk o h1 h3 hal
  · have key : ∀ (k b : Nat), b ∈ fpN → k ∉ gh → b ∈ F k → False := by
      intro k b hb hg hb'
      obtain ⟨q, hq, hb⟩ := fpq b hb
      rcases hb with ⟨lq, oq, a1, a2, a3, rfl⟩ | hb
      · exact hF.far k _ hb' q lq oq a1 a2 (.inl a3) rfl
      · exact hg (hF.apart q k b hb hb' ▸ hq)
    split at hb
    · rename_i hk
      split at hb'
      · rename_i hk'; rw [hk, hk']
      · split at hb'
        · simp at hb'
        · rename_i hk' hg'
          exact (key k' b hb hg' hb').elim
    · split at hb
      · simp at hb
      · rename_i hk hg
        split at hb'
        · exact (key k b hb' hg hb).elim
        · split at hb'
          · simp at hb'
          · exact hF.apart k k' b hb hb'
end
@[reducible] def inpBut (W : World) (b : Nat) : Inp := ⟨fun a => if a.block = b then none else W.cell? a, 1⟩
section
variable {base : Nat → Prop} {w0 W W1 : World} {r : List Loc} {m : Mem} {j : Nat} {l : Loc} {ob : SObj}
theorem St.one [Inp] (hst : St base w0 r m W) (hl : r[j]? = some l) (hob : m[j]? = some ob) (hown : ob.own = true) (hm : ob.isM = false) (hp : plainL ob.cells = true) : @St (inpBut W l.blk) (fun k => W.heap.size ≤ k ∨ k = l.blk) W [l] [⟨true, ob.cells⟩] W := by
  have hO := hst.obj j l ob hl hob
  refine @St.mk (inpBut W l.blk) _ _ _ _ _ (Low.refl _ _) (fun _ h => .inl h) (fun a u h => ?_) rfl (fun k l' o q1 q2 => ?_) (fun k k' l1 l2 o o' q1 q2 q3 q4 hne _ _ => ?_) ⟨fun _ => [], fun k l' o q1 q2 => ?_, by simp, by simp, by simp⟩
  · have h' : (if a.block = l.blk then none else W.cell? a) = some u := h
    split at h'
    · cases h'
    · rename_i hb
      have := cell_lt h'
      exact ⟨fun hh => by rcases hh with hh | hh <;> omega, h'⟩
  · match k, q1, q2 with
    | 0, q1, q2 =>
      simp at q1 q2
      subst q1; subst q2
      refine ⟨fun _ _ => ?_, hO.fits, fun _ => .inr rfl, hO.lt, trivial⟩
      obtain ⟨c, T, fr, g1, g2, g3, g4⟩ := hO.there hm (.inl hown)
      exact ⟨c, T, fr, g1, g2, plainL_is hp g3, fun _ => g4 hown⟩
    | k + 1, q1, q2 => simp at q1
  · have h1 := (List.getElem?_eq_some_iff.1 q1).1
    have h2 := (List.getElem?_eq_some_iff.1 q2).1
    simp at h1 h2
    omega
  · match k, q1, q2 with
    | 0, q1, q2 => simp at q2; subst q2; trivial
    | k + 1, q1, q2 => simp at q1
theorem St.back (I J : Inp) (hst : @St I base w0 r m W) (hl : r[j]? = some l) (hob : m[j]? = some ob) (hown : ob.own = true) {r' : List Loc} {m' : Mem} {c' : List SV}
    (h2 : @St J (fun k => W.heap.size ≤ k ∨ k = l.blk) W r' m' W1) (hr : r'[0]? = some l) (hm : m'[0]? = some ⟨true, c'⟩) (hp : plainL c' = true) : @St I base w0 r (m.set j ⟨true, c'⟩) W1 := by
  have hbase : base l.blk := (@St.obj I _ _ _ _ _ hst j l ob hl hob).own hown
  have hlow2 := @St.low J _ _ _ _ _ h2
  have hlow : Low base W W1 := ⟨hlow2.os, hlow2.tape, hlow2.output, hlow2.size, fun k hk hb => hlow2.block k hk (fun hh => by
    rcases hh with hh | hh
    · omega
    · exact hb (hh ▸ hbase)), hlow2.shape⟩
  have hO := @St.obj J _ _ _ _ _ h2 0 l _ hr hm
  refine @St.wr _ _ _ _ _ I hst _ _ _ _ hl hob hown hlow (fun k hk hne => hlow2.block k hk fun hh => by
    rcases hh with hh | hh
    · omega
    · exact hne hh) _ ⟨fun h1 h3 => ?_, hO.fits, fun _ => hbase, hO.lt, trivial⟩ rfl
  obtain ⟨c, T, fr, g1, g2, g3, g4⟩ := hO.there h1 h3
  exact ⟨c, T, fr, g1, g2, plainL_is hp g3, g4⟩
theorem knows_but {I : Inp} (hst : St base w0 r m W) (hl : r[j]? = some l) (hob : m[j]? = some ob) (hown : ob.own = true) {s : SV} {u : Value} (hs : s.Is r u) : Knows I (inpBut W l.blk) (m.set j ⟨false, []⟩) s u := by
  have hst' := hst.kill1 j
  refine ⟨fun x hx => by subst hx; simpa only [SV.Is] using hs, fun ys hx => ?_, fun z n ys hsl => ?_⟩
  · subst hx
    simp only [SV.Is] at hs
    obtain ⟨us, rfl, hus⟩ := hs
    rw [isL_v_inv hus]
  · obtain ⟨p, c, us, rfl, hus, hlen, hcell⟩ := sl_cells hst' hsl hs
    have hxl := slOf_len hsl
    obtain rfl := isL_v_inv hus
    refine ⟨p, c, rfl, inpL_of (I := inpBut W l.blk) (by simpa using hxl) fun hne => ?_⟩
    rcases hcell with ⟨a, rfl, hc⟩ | ⟨_, h0⟩
    · have hc := hc W (Same.refl _ _)
      obtain ⟨x, hx⟩ : ∃ x, us[0]? = some x := by
        cases us with
        | nil => exact (hne rfl).elim
        | cons x _ => exact ⟨x, rfl⟩
      have h0 := hc 0 x hx
      rw [add_zero_addr] at h0
      have hap : a.block ≠ l.blk := by
        unfold slOf at hsl
        split at hsl
        · rename_i kk o n1 sz
          simp only [SV.Is] at hs
          obtain ⟨lk, cap, hlk, _, _, hu⟩ := hs
          injection hu with hu; injection hu with hu
          subst hu
          split at hsl
          · split at hsl
            · rename_i ob' hob'
              split at hsl
              · injection hsl with hsl; injection hsl with h1 h2
                have hcn : ob'.cells ≠ [] := by
                  intro he
                  rw [he] at h2
                  simp at h2
                  exact hne h2
                rw [List.getElem?_set] at hob'
                by_cases e : j = kk
                · subst e
                  simp at hob'
                  obtain ⟨_, rfl⟩ := hob'
                  exact (hcn rfl).elim
                · rw [if_neg e] at hob'
                  exact fun e2 => hst.sep j kk l lk ob ob' hl hlk hob hob' e hown (.inr hcn) e2.symm
              · cases hsl
            · cases hsl
          · cases hsl
        · rename_i p n1 c1
          obtain ⟨vs, h1, h2⟩ := Option.map_eq_some_iff.1 hsl
          injection h2 with h2 h3
          simp only [SV.Is] at hs
          injection hs with e1 e2 e3
          subst e1
          obtain ⟨hlen2, hat⟩ := inpL_some h1
          have hk : n1 * z ≠ 0 := by
            intro h0
            rw [h0] at hlen2
            rw [List.length_eq_zero_iff.1 hlen2] at h3
            exact hne (by simpa using h3.symm)
          obtain ⟨a', ha', _, hat⟩ := hat hk
          injection ha' with ha'
          subst ha'
          obtain ⟨y, hy⟩ : ∃ y, vs[0]? = some y := by
            cases vs with
            | nil => simp at hlen2; omega
            | cons y _ => exact ⟨y, rfl⟩
          have := hat 0 y hy
          rw [add_zero_addr] at this
          exact fun e => (hst.inp _ _ this).1 (e ▸ (hst.obj j l ob hl hob).own hown)
        · injection hsl with hsl; injection hsl with h1 h2
          exact (hne (by simpa using h2.symm)).elim
        · injection hsl with hsl; injection hsl with h1 h2
          exact (hne (by simpa using h2.symm)).elim
        · cases hsl
      refine ⟨a, rfl, World.cell?_spot h0, fun i u hi => ?_⟩
      show (if (a.add i).block = l.blk then none else W.cell? (a.add i)) = some u
      have e : (a.add i).block = a.block := by unfold Addr.add; split <;> rfl
      rw [if_neg (by rw [e]; exact hap)]
      exact hc i u hi
    · exact (hne h0).elim
theorem knowsL_but {I : Inp} (hst : St base w0 r m W) (hl : r[j]? = some l) (hob : m[j]? = some ob) (hown : ob.own = true) : ∀ {ss : List SV} {us : List Value}, SV.IsL r ss us → KnowsL I (inpBut W l.blk) (m.set j ⟨false, []⟩) ss us
  | [], us, h => by simpa only [SV.IsL, KnowsL] using h
  | s :: ss, us, h => by
    simp only [SV.IsL] at h
    obtain ⟨u, t, rfl, h1, h2⟩ := h
    exact ⟨u, t, rfl, knows_but hst hl hob hown h1, knowsL_but hst hl hob hown h2⟩
end
theorem keep1 [I : Inp] {g : List Nat} (h : I.keep = 1) (h0 : g[0]? = some 0) : KeepOk g := fun k hk => by
  rw [h] at hk
  obtain rfl : k = 0 := by omega
  exact h0
section
variable {P : Program} {f : FuncId} {eff : List FuncId} {N : Nat} {x : XC} {rs : List XR}
theorem Contract.meth [I : Inp] (hF : FnX P f eff N x rs) {G : Inp → List CEntry} (hG : ∀ J, @GOk J P (G J)) (tr : Trans)
    (body : ∀ args m k, tr args m k → ∃ (j o : Nat) (us : List SV) (cs : List SV), args = .ptr j o :: us ∧ m[j]? = some ⟨true, cs⟩ ∧ plainL cs = true ∧ us.length + 1 ≤ N ∧
      ∀ (J : Inp), J.keep = 1 → ∀ (vs : List Value), KnowsL I J (m.set j ⟨false, []⟩) us vs → @evX J P N eff (G J) x (slots (argSlots 0 (.ptr 0 o :: vs.map SV.of))) [⟨true, cs⟩]
        (fun ex e m' => EndsX ex ∧ evR rs e m' fun s => s.plain = true ∧ ∃ c', m'[0]? = some ⟨true, c'⟩ ∧ plainL c' = true ∧ k s (m.set j ⟨true, c'⟩))) : Contract P f false tr := by
  refine ⟨hF.enter, fun args m k base w0 W r vs ht hst ha => ?_⟩
  obtain ⟨j, o, us, cs, rfl, hob, hp, hlen, hev⟩ := body args m k ht
  obtain ⟨l, vs, hl, rfl, ha2⟩ := ptr_inv0 ha
  have hk := knowsL_but (I := I) hst hl hob rfl ha2
  have hvl := IsL_len ha2
  have hargs : @SV.IsL [l] (.ptr 0 o :: vs.map SV.of) (.pointer (some ⟨l.blk, l.off + o, none⟩) :: vs) := by
    simp only [SV.IsL, SV.Is]
    exact ⟨_, _, rfl, ⟨l, rfl, rfl⟩, isL_of vs⟩
  refine (@FnX.calls P f eff N x rs (G (inpBut W l.blk)) (inpBut W l.blk) hF (hG _) _ _ _ _ _ _ _ (hst.one hl hob rfl rfl hp) hargs (by simp; omega) (fun s m' => s.plain = true ∧ ∃ c', m'[0]? = some ⟨true, c'⟩ ∧ plainL c' = true ∧ k s (m.set j ⟨true, c'⟩)) (hev (inpBut W l.blk) rfl vs hk)).mono ?_
  rintro e W1 ⟨s, m', r', u, ⟨hs1, c', hm', hp', hk⟩, rfl, hst1, hs, hkp⟩
  have hr : r'[0]? = some l := hkp 0 l (Nat.lt_succ_self 0) rfl
  exact ⟨s, _, [], u, hk, rfl, by simpa using St.back I (inpBut W l.blk) hst hl hob rfl hst1 hr hm' hp', plain_is hs1 hs, fun h => by cases h⟩
end
end Go.Proofs.Ytibefgdjijmncaa.Sz
end
section
namespace Go.Proofs.Ytibefgdjijmncaa.Sz
open Go.RowKit
def Turn [Inp] (d : Nat) (m : Mem) (s : SV) (m2 : Mem) (s2 : SV) : Prop :=
  ∀ (base : Nat → Prop) (w0 W : World) (r : List Loc) (u : Value), St base w0 r m W → s.Is r u → ∃ r2, St base w0 r2 m2 W ∧ s2.Is r2 u ∧ ∀ k, k < d → ∀ l, r[k]? = some l → r2[k]? = some l
theorem Turn.refl [Inp] {d : Nat} {m : Mem} {s : SV} : Turn d m s m s := fun base w0 W r u h1 h2 => ⟨r, h1, h2, fun _ _ _ h => h⟩
theorem Turn.trans [Inp] {d : Nat} {m m2 m3 : Mem} {s s2 s3 : SV} (h : Turn d m s m2 s2) (h2 : Turn d m2 s2 m3 s3) : Turn d m s m3 s3 := fun base w0 W r u q1 q2 => by
  obtain ⟨r2, a1, a2, a3⟩ := h base w0 W r u q1 q2
  obtain ⟨r3, b1, b2, b3⟩ := h2 base w0 W r2 u a1 a2
  exact ⟨r3, b1, b2, fun k hk l hl => b3 k hk l (a3 k hk l hl)⟩
theorem Turn.fit [Inp] {d : Nat} {m m2 : Mem} {s s2 : SV} (g : List Nat) (hn : NdL g m2) (hm : FitM g m g m2) (hs : Le g s2 s) (hk : ∀ k, k < d → g[k]? = some k) : Turn d m s m2 s2 := fun base w0 W r u q1 q2 => by
  obtain ⟨a1, a2, _⟩ := fit_sound' (N := 0) (e := fun _ => .any) (l := []) (ts := #[]) hn hm q1
  exact ⟨_, a1, hs.is a2 q2, fun k h l hl => a2 k k (hk k h) l hl⟩
theorem Turn.seal [Inp] {d : Nat} {m : Mem} {s : SV} {j n : Nat} {refs gh : List Nat} {h : List SV} {H : Mem} {Q : List SV → Mem → Prop} (hrn : refs.length = n) (hnd : (j :: (refs ++ gh)).Nodup) (hfm : FitM (j :: (refs ++ gh)) m (j :: (refs ++ gh)) (hidM n h H)) (hQ : Q h H) (hown : ∀ o ∈ H, o.own = true ∨ o.cells = []) :
    Turn d m s ((Sz.killL m gh).set j (absO (hide n Q) refs)) s := fun base w0 W r u q1 q2 => ⟨r, q1.seal hrn hnd hfm hQ hown, q2, fun _ _ _ h => h⟩
section
variable {P : Program} {f : FuncId} {eff : List FuncId} {N : Nat} {x : XC} {rs : List XR}
theorem Contract.readT [I : Inp] (hF : FnX P f eff N x rs) {G : Inp → List CEntry} (hG : ∀ J, @GOk J P (G J)) (tr : Trans)
    (body : ∀ args m k, tr args m k → args.length ≤ N ∧ ∀ (J : Inp), J.keep = 0 → ∀ (us : List Value), KnowsL I J m args us → @evX J P N eff (G J) x (slots (argSlots 0 (us.map SV.of))) [] (fun ex e m' => EndsX ex ∧ evR rs e m' fun s => ∃ (m2 : Mem) (s2 : SV), @Turn J 0 m' s m2 s2 ∧ (∀ o ∈ m2, o.own = true) ∧ k (s2.up m.length) (m ++ m2.map (SObj.up m.length)))) : Contract P f true tr := by
  refine ⟨hF.enter, fun args m k base w0 W r vs ht hst ha => ?_⟩
  obtain ⟨hlen, hev⟩ := body args m k ht
  have hk := knowsL_of hst ha
  have hvl := IsL_len ha
  refine (@FnX.calls P f eff N x rs (G (inpOf W)) (inpOf W) hF (hG (inpOf W)) _ _ _ _ _ _ _ (St.inpOf W) (isL_of vs) (by simp; omega) (fun s m' => ∃ (m2 : Mem) (s2 : SV), @Turn (inpOf W) 0 m' s m2 s2 ∧ (∀ o ∈ m2, o.own = true) ∧ k (s2.up m.length) (m ++ m2.map (SObj.up m.length))) (hev (inpOf W) rfl vs hk)).mono ?_
  rintro e W1 ⟨s, m', r', u, ⟨m2, s2, hT, hown, hk⟩, rfl, hst1, hs, _⟩
  have hb : Below W.heap.size W W1 := (@St.low (inpOf W) _ _ _ _ _ hst1).below
  obtain ⟨r2, hst2, hs2, _⟩ := hT _ _ _ r' u hst1 hs
  have hj := St.join2 I (inpOf W) hst hst2 hown
  rw [← hst.len] at hk
  exact ⟨_, _, r2, u, hk, rfl, hj, up_is hs2, fun _ => Same.below hst hb⟩
end
end Go.Proofs.Ytibefgdjijmncaa.Sz
end
section
namespace Go.Proofs.Ytibefgdjijmncaa.Sz
open Go.RowKit
theorem CORE : (type_of% @Int.cast_ofNat_Int) ∧ (type_of% @Nat.mul_one) ∧ (type_of% @decide_true) ∧ (type_of% @decide_false) ∧ (type_of% @List.map_cons.{0, 0}) ∧ (type_of% @List.map_nil.{0, 0}) ∧ (type_of% @List.length_cons.{0}) ∧ (type_of% @List.length_nil.{0}) ∧ (type_of% @List.cons_append.{0}) ∧ (type_of% @List.nil_append.{0}) ∧ (type_of% @List.getElem?_cons_zero.{0}) ∧ (type_of% @List.getElem?_cons_succ.{0}) ∧ (type_of% @List.getElem?_nil.{0}) ∧ (type_of% @List.take_succ_cons.{0}) ∧ (type_of% @List.take_zero.{0}) ∧ (type_of% @List.drop_succ_cons.{0}) ∧ (type_of% @List.drop_zero.{0}) ∧ (type_of% @List.all_cons.{0}) ∧ (type_of% @List.all_nil.{0}) ∧ (type_of% @List.set_cons_zero.{0}) ∧ (type_of% @List.set_cons_succ.{0}) ∧ (type_of% @List.append_nil.{0}) ∧ (type_of% @Option.map_some.{0, 0}) ∧ (type_of% @Option.map_none.{0, 0}) ∧ (type_of% @cond_true.{1}) ∧ (type_of% @cond_false.{1}) ∧ (type_of% @Bool.true_eq_false) ∧ (type_of% @Bool.false_eq_true) ∧ (type_of% @Bool.not_true) ∧ (type_of% @Bool.not_false) ∧ (type_of% @true_and) ∧ (type_of% @and_true) ∧ (type_of% @Nat.zero_add) ∧ (type_of% @Nat.add_zero) ∧ (type_of% @Nat.zero_mul) ∧ (type_of% @Nat.le_refl) ∧ (type_of% @Int.toNat_natCast) ∧ (type_of% @Bool.and_self) ∧ (type_of% @Bool.true_and) ∧ (type_of% @Bool.and_true) ∧ (type_of% @and_self) ∧ (type_of% @of_int) ∧ (type_of% @of_bool) ∧ (type_of% @of_str) ∧ (type_of% @of_sl) ∧ (type_of% @of_p) ∧ (type_of% @of_agg) :=
  ⟨@Int.cast_ofNat_Int, @Nat.mul_one, @decide_true, @decide_false, @List.map_cons, @List.map_nil, @List.length_cons, @List.length_nil, @List.cons_append, @List.nil_append, @List.getElem?_cons_zero, @List.getElem?_cons_succ, @List.getElem?_nil, @List.take_succ_cons, @List.take_zero, @List.drop_succ_cons, @List.drop_zero, @List.all_cons, @List.all_nil, @List.set_cons_zero, @List.set_cons_succ, @List.append_nil, @Option.map_some, @Option.map_none, @cond_true, @cond_false, @Bool.true_eq_false, @Bool.false_eq_true, @Bool.not_true, @Bool.not_false, @true_and, @and_true, @Nat.zero_add, @Nat.add_zero, @Nat.zero_mul, @Nat.le_refl, @Int.toNat_natCast, @Bool.and_self, @Bool.true_and, @Bool.and_true, @and_self, @of_int, @of_bool, @of_str, @of_sl, @of_p, @of_agg⟩
end Go.Proofs.Ytibefgdjijmncaa.Sz
end
section
namespace Go.Proofs.Ytibefgdjijmncaa.Sz
open Go.RowKit
variable {P : Program} {f : FuncId} {fn : Func}
def trOf (g : List SV → Mem → Option (List (SV × Mem))) : Trans := fun args m k => match g args m with | some L => ∀ o ∈ L, k o.1 o.2 | none => False
theorem setCell_row {W : World} {b i : Nat} {c : Array Value} {T : TypeId} {fr : Nat × Nat} (h : W.heap[b]? = some (.cells c T fr)) (u : Value) : W.setCell ⟨b, i, none⟩ u = W.setRow b (c.setIfInBounds i u) := by
  unfold World.setCell World.setRow
  congr 1
  apply Array.ext
  · simp
  · intro k h1 h2
    simp only [Array.getElem_modify]
    split
    · rename_i e
      subst e
      have : W.heap[b]? = some (W.heap[b]'(by simpa using h1)) := by simp
      rw [h] at this
      injection this with this
      rw [← this]
      simp
    · rfl
section
variable [Inp] {base : Nat → Prop} {w0 W : World} {r : List Loc} {m : Mem}
theorem St.cellAt (hst : St base w0 r m W) {j o : Nat} {ob : SObj} {s : SV} (hob : m[j]? = some ob) (hs : ob.cells[o]? = some s) : ∃ l u, r[j]? = some l ∧ W.cell? ⟨l.blk, l.off + o, none⟩ = some u ∧ s.Is r u := by
  have hj : j < r.length := by rw [hst.len]; exact (List.getElem?_eq_some_iff.1 hob).1
  have hO := hst.obj j _ ob (List.getElem?_eq_getElem hj) hob
  have hne : ob.cells ≠ [] := fun e => by rw [e] at hs; simp at hs
  obtain ⟨c, T, fr, g1, g2, g3, g4⟩ := hO.there (notM hO hne) (.inr hne)
  obtain ⟨u, hu, hsu⟩ := IsL_get g3 hs
  refine ⟨_, u, List.getElem?_eq_getElem hj, ?_, hsu⟩
  rw [List.getElem?_take] at hu
  split at hu
  · rw [List.getElem?_drop] at hu
    rw [cell_of_row W _ _ c T fr g1]
    simpa using hu
  · cases hu
theorem St.setAt (hst : St base w0 r m W) {j o : Nat} {ob : SObj} {l : Loc} {s' : SV} {u : Value} (hl : r[j]? = some l) (hob : m[j]? = some ob) (hown : ob.own = true) (ho : o < ob.cells.length) (hs : s'.Is r u) :
    W.frozen? ⟨l.blk, l.off + o, none⟩ = false ∧ St base w0 r (m.set j ⟨true, ob.cells.set o s'⟩) (W.setCell ⟨l.blk, l.off + o, none⟩ u) := by
  have hO := hst.obj j l ob hl hob
  have hne : ob.cells ≠ [] := fun e => by rw [e] at ho; simp at ho
  obtain ⟨c, T, fr, g1, g2, g3, g4⟩ := hO.there (notM hO hne) (.inr hne)
  have g5 := hO.fits
  have := g4 hown
  subst this
  refine ⟨by simp [World.frozen?, g1], ?_⟩
  rw [setCell_row g1]
  refine hst.put hl hob hown g1 _ (by simp) _ (hO.put hown g1 g2 (by simp) (by simpa using hO.fits) ?_)
  have e : ((c.setIfInBounds (l.off + o) u).toList.drop l.off).take (ob.cells.set o s').length = ((c.toList.drop l.off).take ob.cells.length).set o u := by
    rw [List.length_set, Array.toList_setIfInBounds]
    apply List.ext_getElem?
    intro i
    simp only [List.getElem?_take, List.getElem?_drop, List.getElem?_set, List.length_take, List.length_drop, Array.length_toList]
    have hc : l.off + l.room ≤ c.size := g2
    by_cases h1 : i < ob.cells.length
    · by_cases h2 : o = i
      · subst h2
        simp only [if_pos h1, if_true]
        rw [if_pos (by omega), if_pos (by omega)]
      · rw [if_pos h1, if_neg (by omega), if_neg h2, if_pos h1]
    · rw [if_neg h1]
      by_cases h2 : o = i
      · omega
      · rw [if_neg h2, if_neg h1]
  show SV.IsL r (ob.cells.set o s') (((c.setIfInBounds (l.off + o) u).toList.drop l.off).take (ob.cells.set o s').length)
  rw [e]
  exact IsL_set o g3 hs
end
theorem ptr_inv [Inp] {r : List Loc} {j o : Nat} {vs : List Value} {l : List SV} (h : SV.IsL r (.ptr j o :: l) vs) : ∃ lc t, r[j]? = some lc ∧ vs = .pointer (some ⟨lc.blk, lc.off + o, none⟩) :: t ∧ SV.IsL r l t := by
  simp only [SV.IsL, SV.Is] at h
  obtain ⟨u, t, rfl, ⟨lc, hl, rfl⟩, ht⟩ := h
  exact ⟨lc, t, hl, rfl, ht⟩
theorem int_inv {r : List Loc} {x : Value} {vs : List Value} {l : List SV} (h : SV.IsL r (.v x :: l) vs) : ∃ t, vs = x :: t ∧ SV.IsL r l t := by
  simp only [SV.IsL, SV.Is] at h
  obtain ⟨u, t, rfl, rfl, ht⟩ := h
  exact ⟨t, rfl, ht⟩
theorem nil_inv {r : List Loc} {vs : List Value} (h : SV.IsL r [] vs) : vs = [] := by simpa only [SV.IsL] using h
def cellI (m : Mem) (j o : Nat) (k : IntKind) : Option Int := match m[j]? with
  | some ob => (match ob.cells[o]? with | some (.v (.int k' x)) => if k' = k then some x else none | _ => none)
  | none => none
theorem cellI_ok {m : Mem} {j o : Nat} {k : IntKind} {x : Int} (h : cellI m j o k = some x) : ∃ ob, m[j]? = some ob ∧ ob.cells[o]? = some (.v (.int k x)) := by
  unfold cellI at h
  split at h
  · rename_i ob hob
    split at h
    · rename_i k' x' hc
      split at h
      · rename_i e
        injection h with h; subst h; subst e
        exact ⟨ob, hob, hc⟩
      · cases h
    · cases h
  · cases h
def gLoad (k : IntKind) : List SV → Mem → Option (List (SV × Mem)) := fun args m => match args with
  | [.ptr j o] => (match cellI m j o k with | some x => some [(.v (.int k x), m)] | none => none)
  | _ => none
theorem ext_load [Inp] (hf : P.funcs[f]? = some fn) (hname : (fn.name == "runtime.NumGoroutine") = false) (hb : fn.body.isNone = true) (hn : Extern.findNext fn = none) (k : IntKind)
    (he : Extern.find fn = some (Extern.Atomic.loadT (.int k))) : ExtC P f true (trOf (gLoad k)) := by
  refine ⟨fun args m K base w0 W r vs ht hst ha => ?_⟩
  unfold trOf gLoad at ht
  split at ht
  case h_2 => exact ht.elim
  rename_i L hL
  split at hL
  case h_2 => cases hL
  rename_i j o
  split at hL
  case h_2 => cases hL
  rename_i x hx
  injection hL with hL; subst hL
  obtain ⟨ob, hob, hc⟩ := cellI_ok hx
  obtain ⟨lc, t, hl, rfl, ht2⟩ := ptr_inv ha
  obtain rfl := nil_inv ht2
  obtain ⟨l, u, hl', hcell, hu⟩ := hst.cellAt hob hc
  rw [hl] at hl'; injection hl' with hl'; subst hl'
  simp only [SV.Is] at hu
  subst hu
  exact ⟨_, m, [], _, W, ht _ (List.mem_singleton.2 rfl), run_call_load hf hname hb hn k he hcell, by simpa using hst, by simp only [SV.Is], fun _ => Same.refl _ _⟩
def setI (m : Mem) (j o : Nat) (s : SV) : Option Mem := match m[j]? with
  | some ob => bif ob.own && Nat.blt o ob.cells.length then some (m.set j ⟨true, ob.cells.set o s⟩) else none
  | none => none
theorem setI_ok {m m' : Mem} {j o : Nat} {s : SV} (h : setI m j o s = some m') : ∃ ob, m[j]? = some ob ∧ ob.own = true ∧ o < ob.cells.length ∧ m' = m.set j ⟨true, ob.cells.set o s⟩ := by
  unfold setI at h
  split at h
  · rename_i ob hob
    cases hc : ob.own && Nat.blt o ob.cells.length with
    | true =>
      simp only [hc, cond_true] at h
      injection h with h; subst h
      simp only [Bool.and_eq_true] at hc
      exact ⟨ob, hob, hc.1, by simpa [Nat.blt_eq] using hc.2, rfl⟩
    | false => simp only [hc, cond_false] at h; cases h
  · cases h
def gStore : List SV → Mem → Option (List (SV × Mem)) := fun args m => match args with
  | [.ptr j o, .v (.int k y)] => (match setI m j o (.v (.int k y)) with | some m' => some [(.tup [], m')] | none => none)
  | _ => none
theorem ext_store [Inp] (hf : P.funcs[f]? = some fn) (hname : (fn.name == "runtime.NumGoroutine") = false) (hb : fn.body.isNone = true) (hn : Extern.findNext fn = none)
    (he : Extern.find fn = some Extern.Atomic.storeT) : ExtC P f false (trOf gStore) := by
  refine ⟨fun args m K base w0 W r vs ht hst ha => ?_⟩
  unfold trOf gStore at ht
  split at ht
  case h_2 => exact ht.elim
  rename_i L hL
  split at hL
  case h_2 => cases hL
  rename_i j o k y
  split at hL
  case h_2 => cases hL
  rename_i m' hm
  injection hL with hL; subst hL
  obtain ⟨ob, hob, hown, ho, rfl⟩ := setI_ok hm
  obtain ⟨lc, t, hl, rfl, ht2⟩ := ptr_inv ha
  obtain ⟨t3, rfl, ht3⟩ := int_inv ht2
  obtain rfl := nil_inv ht3
  obtain ⟨l, u, hl', hcell, _⟩ := hst.cellAt hob (List.getElem?_eq_getElem ho)
  rw [hl] at hl'; injection hl' with hl'; subst hl'
  obtain ⟨hz, hst1⟩ := hst.setAt (s' := .v (.int k y)) (u := .int k y) hl hob hown ho (by simp only [SV.Is])
  exact ⟨_, _, [], _, _, ht _ (List.mem_singleton.2 rfl), run_call_store hf hname hb hn he hcell hz, by simpa using hst1, by simp only [SV.Is]; exact ⟨[], rfl, by simp only [SV.IsL]⟩, fun h => by cases h⟩
end Go.Proofs.Ytibefgdjijmncaa.Sz
end
section
namespace Go.Proofs.Ytibefgdjijmncaa
open Go.RowKit Sz
set_option maxRecDepth 100000
theorem e180 [Inp] : ExtC Try.prog 180 false (trOf gStore) := ext_store Try.func180 (by kernel_rfl) (by kernel_rfl) (by kernel_rfl) (by kernel_rfl)
theorem e164 [Inp] : ExtC Try.prog 164 true (trOf (gLoad .u32)) := ext_load Try.func164 (by kernel_rfl) (by kernel_rfl) (by kernel_rfl) .u32 (by kernel_rfl)
theorem n_disable (w : World) : (callFunc 182 #[]).run Try.prog w = .ok (.value (.tuple #[])) w := run_call_mark0 Try.func182 (by kernel_rfl) (by kernel_rfl) (by kernel_rfl) .disable (by kernel_rfl) w
theorem n_enable (w : World) : (callFunc 184 #[]).run Try.prog w = .ok (.value (.tuple #[])) w := run_call_mark0 Try.func184 (by kernel_rfl) (by kernel_rfl) (by kernel_rfl) .enable (by kernel_rfl) w
theorem n_acquire (a : Addr) (w : World) : (callFunc 185 #[.pointer (some a)]).run Try.prog w = .ok (.value (.tuple #[])) w := run_call_marked Try.func185 (by kernel_rfl) (by kernel_rfl) (by kernel_rfl) .acquire (by kernel_rfl) a w
theorem n_release (a : Addr) (w : World) : (callFunc 187 #[.pointer (some a)]).run Try.prog w = .ok (.value (.tuple #[])) w := run_call_marked Try.func187 (by kernel_rfl) (by kernel_rfl) (by kernel_rfl) .releaseMerge (by kernel_rfl) a w
theorem n_store (a : Addr) (x : Value) (u : FrameMode) (w : World) (hc : w.cell? a = some x) (hz : w.frozen? a = false) :
    CallsD Try.prog 177 #[.pointer (some a), .bool true] u w fun e u' w' => u' = u ∧ (e = .returned (.tuple #[]) ∧ w' = w.drew.setCell a (.int .u32 1)) := by
  have hc' : w.drew.cell? a = some x := by go_simp
  have hz' : w.drew.frozen? a = false := by go_simp
  have hst := run_call_store (P := Try.prog) Try.func180 (by kernel_rfl) (by kernel_rfl) (by kernel_rfl) (by kernel_rfl) (k := .u32) (y := 1) hc' hz'
  go_enter_d Try.func177, Try.ntmps177
  go_wp2
  go_region_calls
  all_goals (go_end0; exact ⟨rfl, rfl⟩)
theorem n_unlock (a : Addr) (u : FrameMode) (w : World) (hc : w.cell? a = some (.int .i32 1)) (hz : w.frozen? a = false) :
    CallsD Try.prog 176 #[.pointer (some a)] u w fun e u' w' => u' = u ∧ (e = .returned (.tuple #[]) ∧ w' = w.setCell a (.int .i32 0)) := by
  have hd := n_disable
  have he := n_enable
  have hr := n_release
  have hadd := run_call_add (P := Try.prog) Try.func188 (by kernel_rfl) (by kernel_rfl) (by kernel_rfl) .i32 (by kernel_rfl) (y := -1) (s := 0) hc hz (by simp [go_sem]; rfl)
  have hcv := run_convert_to_unsafe (P := Try.prog) (src := 252) (dst := 256) Try.underlying252 Try.underlying256 (by kernel_rfl) hc
  go_enter_d Try.func176, Try.ntmps176
  go_wp2
  go_end0
  go_wp2
  go_end0
  exact ⟨rfl, rfl⟩
theorem n_lock (a : Addr) (w : World) (hc : w.cell? a = some (.int .i32 0)) (hz : w.frozen? a = false) :
    Calls Try.prog 175 #[.pointer (some a)] w fun e w' => e = .returned (.tuple #[]) ∧ w' = w.setCell a (.int .i32 1) := by
  have hd := n_disable
  have he := n_enable
  have ha := n_acquire
  have hcas := run_call_cas_hit (P := Try.prog) Try.func183 (by kernel_rfl) (by kernel_rfl) (by kernel_rfl) .i32 (by kernel_rfl) (y := 1) hc hz
  have hc' : (w.setCell a (.int .i32 1)).cell? a = some (.int .i32 1) := World.cell?_setCell_same w a _ hc
  have hcv := run_convert_to_unsafe (P := Try.prog) (src := 252) (dst := 256) Try.underlying252 Try.underlying256 (by kernel_rfl) hc'
  go_enter Try.func175, Try.ntmps175
  go_wp2
  first | go_end0 | (simp only [Exit.inBlock, Exit.then]; refine bodyPost_ret (results_none rfl _ _ _) rfl ?_) | refine bodyPost_ret (results_none rfl _ _ _) rfl ?_
  go_wp2
  go_end0
  exact ⟨rfl, rfl⟩
end Go.Proofs.Ytibefgdjijmncaa
end
section
namespace Go.Proofs.Ytibefgdjijmncaa
open Go.RowKit Sz
set_option maxRecDepth 100000
set_option maxHeartbeats 1600000
theorem n_slow (b off : Nat) (w : World) (R : World → Prop)
    (h0 : w.cell? ⟨b, off, none⟩ = some (.int .u32 0)) (h1 : w.cell? ⟨b, off + 1, none⟩ = some (.int .i32 0)) (f1 : w.frozen? ⟨b, off + 1, none⟩ = false)
    (hcall : Calls Try.prog 172 #[.pointer (some ⟨b, off, none⟩)] (w.setCell ⟨b, off + 1, none⟩ (.int .i32 1)) fun e w2 => (∃ u, e = .returned u) ∧ R w2)
    (hR : ∀ w2, R w2 → (∃ x, w2.cell? ⟨b, off, none⟩ = some x) ∧ w2.cell? ⟨b, off + 1, none⟩ = some (.int .i32 1) ∧ w2.frozen? ⟨b, off, none⟩ = false ∧ w2.frozen? ⟨b, off + 1, none⟩ = false) :
    Calls Try.prog 174 #[.pointer (some ⟨b, off, none⟩), .func (.func 172) #[.pointer (some ⟨b, off, none⟩)] #[]] w fun e w' => e = .returned (.tuple #[]) ∧
      ∃ w2, R w2 ∧ w' = (w2.drew.setCell ⟨b, off, none⟩ (.int .u32 1)).setCell ⟨b, off + 1, none⟩ (.int .i32 0) := by
  have hl := run_call_load (P := Try.prog) Try.func164 (by kernel_rfl) (by kernel_rfl) (by kernel_rfl) .u32 (by kernel_rfl) (w := w.setCell ⟨b, off + 1, none⟩ (.int .i32 1)) (a := ⟨b, off, none⟩) (x := 0) ((World.cell?_setCell_other _ ⟨b, off + 1, none⟩ ⟨b, off, none⟩ _ (by simp)).trans h0)
  have hnot : ∀ (x : Bool) (w : World), (Op.unary .not (.bool x)).run Try.prog w = .ok (.bool (!x)) w := fun _ _ => rfl
  go_enter_defers Try.func174, Try.ntmps174
  go_wp2_with (go_at_call 175; refine (n_lock ⟨b, off + 1, none⟩ _ (by go_simp) (by go_simp)).mono ?_; rintro e w' ⟨rfl, rfl⟩)
  go_wp2_with (first | (go_at_call 146; go_in) | (go_at_call 172; refine hcall.mono ?_; rintro e w2 ⟨⟨u, rfl⟩, hw2⟩))
  obtain ⟨⟨x, c0⟩, c1, z0, z1⟩ := hR w2 hw2
  refine leaves_cons (f := 177) (args := #[.pointer (some ⟨b, off, none⟩), .bool true]) (by simp) (by simp [go_sem]) ?_
  refine (n_store ⟨b, off, none⟩ x .returning _ c0 z0).mono ?_
  rintro e u' w'' ⟨rfl, rfl, rfl⟩
  refine leaves_cons (f := 176) (args := #[.pointer (some ⟨b, off + 1, none⟩)]) (by simp [settle]) (by simp [go_sem]) ?_
  refine (n_unlock ⟨b, off + 1, none⟩ _ _ ?_ (by simp [z1])).mono ?_
  · refine (World.cell?_setCell_other _ ⟨b, off, none⟩ ⟨b, off + 1, none⟩ _ (by simp)).trans ?_
    rw [World.cell?_drew]
    exact c1
  rintro e u' w'' ⟨rfl, rfl, rfl⟩
  simp [Leaves, settle, results, Try.results174]
  exact ⟨w2, hw2, rfl⟩
theorem n_do (b off : Nat) (w : World) (R : World → Prop)
    (h0 : w.cell? ⟨b, off, none⟩ = some (.int .u32 0)) (h1 : w.cell? ⟨b, off + 1, none⟩ = some (.int .i32 0)) (f1 : w.frozen? ⟨b, off + 1, none⟩ = false)
    (hcall : Calls Try.prog 172 #[.pointer (some ⟨b, off, none⟩)] (w.setCell ⟨b, off + 1, none⟩ (.int .i32 1)) fun e w2 => (∃ u, e = .returned u) ∧ R w2)
    (hR : ∀ w2, R w2 → (∃ x, w2.cell? ⟨b, off, none⟩ = some x) ∧ w2.cell? ⟨b, off + 1, none⟩ = some (.int .i32 1) ∧ w2.frozen? ⟨b, off, none⟩ = false ∧ w2.frozen? ⟨b, off + 1, none⟩ = false) :
    Calls Try.prog 171 #[.pointer (some ⟨b, off, none⟩), .func (.func 172) #[.pointer (some ⟨b, off, none⟩)] #[]] w fun e w' => e = .returned (.tuple #[]) ∧
      ∃ w2, R w2 ∧ w' = (w2.drew.setCell ⟨b, off, none⟩ (.int .u32 1)).setCell ⟨b, off + 1, none⟩ (.int .i32 0) := by
  have hl := run_call_load (P := Try.prog) Try.func164 (by kernel_rfl) (by kernel_rfl) (by kernel_rfl) .u32 (by kernel_rfl) h0
  have hnot : ∀ (x : Bool) (w : World), (Op.unary .not (.bool x)).run Try.prog w = .ok (.bool (!x)) w := fun _ _ => rfl
  go_enter Try.func171, Try.ntmps171
  go_wp2_with (first | (go_at_call 174; refine (n_slow b off w R h0 h1 f1 hcall hR).mono ?_; rintro e w' ⟨rfl, hw⟩) | (go_at_call 146; go_in))
  go_end0
  exact ⟨rfl, hw⟩
end Go.Proofs.Ytibefgdjijmncaa
end
section
namespace Go.Proofs.Ytibefgdjijmncaa
open Go.RowKit Sz
set_option maxHeartbeats 4000000
set_option maxRecDepth 20000
-- (*almshouse/sum.table).make (1 parameters)
def x172 : XC := (.seq (.tree (.seq ⟨some 5, none, (.ofA (.mv (.cst (.v (.int .i64 0)))))⟩
 .done))
 (.block 0 (.loop (.seq (.tree (.seq ⟨some 6, none, (.ofA (.bin .lss (.tmp 5) (.cst (.v (.int .i64 256)))))⟩
 .done))
 (.seq (.cond (.tmp 6)
 .skip
 (.exit 0))
 (.seq (.block 1 (.seq (.tree (.seq ⟨some 7, none, (.ofA (.mv (.tmp 5)))⟩
 (.seq ⟨some 2, none, (.ofA (.mv (.tmp 7)))⟩
 .done)))
 (.seq (.tree (.seq ⟨some 8, none, (.ofA (.mv (.tmp 2)))⟩
 (.seq ⟨some 9, none, (.ofA (.conv .u32 (.tmp 8)))⟩
 (.seq ⟨some 3, none, (.ofA (.mv (.tmp 9)))⟩
 .done))))
 (.seq (.seq (.tree (.seq ⟨some 10, none, (.ofA (.mv (.cst (.v (.int .i64 0)))))⟩
 .done))
 (.block 2 (.loop (.seq (.tree (.seq ⟨some 11, none, (.ofA (.bin .lss (.tmp 10) (.cst (.v (.int .i64 8)))))⟩
 .done))
 (.seq (.cond (.tmp 11)
 .skip
 (.exit 2))
 (.seq (.block 3 (.seq (.tree (.seq ⟨some 12, none, (.ofA (.mv (.tmp 3)))⟩
 (.seq ⟨some 13, none, (.ofA (.bin .and (.tmp 12) (.cst (.v (.int .u32 1)))))⟩
 (.seq ⟨some 4, none, (.ofA (.mv (.tmp 13)))⟩
 .done))))
 (.seq (.tree (.seq ⟨some 14, none, (.ofA (.mv (.tmp 3)))⟩
 (.seq ⟨some 15, none, (.ofA (.bin .shr (.tmp 14) (.cst (.v (.int .u64 1)))))⟩
 (.seq ⟨some 3, none, (.ofA (.mv (.tmp 15)))⟩
 .done))))
 (.seq (.tree (.seq ⟨some 16, none, (.ofA (.mv (.tmp 4)))⟩
 (.seq ⟨some 17, none, (.ofA (.bin .eql (.tmp 16) (.cst (.v (.int .u32 1)))))⟩
 .done)))
 (.cond (.tmp 17)
 (.tree (.seq ⟨some 18, none, (.ofA (.mv (.tmp 3)))⟩
 (.seq ⟨some 19, none, (.ofA (.bin .xor (.tmp 18) (.cst (.v (.int .u32 2197175160)))))⟩
 (.seq ⟨some 3, none, (.ofA (.mv (.tmp 19)))⟩
 .done))))
 .skip)))))
 (.tree (.seq ⟨some 20, none, (.ofA (.bin .add (.tmp 10) (.cst (.v (.int .i64 1)))))⟩
 (.seq ⟨some 10, none, (.ofA (.mv (.tmp 20)))⟩
 .done)))))))))
 (.tree (.seq ⟨some 21, none, (.ofA (.mv (.tmp 0)))⟩
 (.seq ⟨some 22, none, (.ofA (.mv (.tmp 2)))⟩
 (.seq ⟨some 23, none, (.ofA (.mv (.tmp 3)))⟩
 (.seq ⟨some 24, none, (.ofA (.nilc (.tmp 21)))⟩
 (.seq ⟨some 25, none, (.ofA (.faddr 3 (.tmp 24)))⟩
 (.seq ⟨some 26, none, (.ofA (.iarr 256 1 (.tmp 25) (.tmp 22)))⟩
 (.seq ⟨none, none, (.store 1 (.tmp 26) (.tmp 23))⟩
 .done))))))))))))
 (.tree (.seq ⟨some 27, none, (.ofA (.bin .add (.tmp 5) (.cst (.v (.int .i64 1)))))⟩
 (.seq ⟨some 5, none, (.ofA (.mv (.tmp 27)))⟩
 .done)))))))))
def r172 : List XR := []
theorem fn172 : FnX Try.prog 172 [] 28 x172 r172 := ⟨_, Try.func172, by kernel_rfl, by kernel_rfl, by kernel_rfl, by kernel_rfl⟩
def lowI (v : Int) : Int := IntKind.u32.wrap (BitVec.ofInt IntKind.u32.bits v &&& BitVec.ofInt IntKind.u32.bits 1).toNat
def shI (v : Int) : Int := v.fdiv (2 ^ (min (1 : Int).toNat IntKind.u32.bits))
def xoI (v w : Int) : Int := IntKind.u32.wrap (BitVec.ofInt IntKind.u32.bits v ^^^ BitVec.ofInt IntKind.u32.bits w).toNat
def stepI (v : Int) : Int := if lowI v = 1 then xoI (shI v) 2197175160 else shI v
def stepN : Nat → Int → Int
  | 0, v => v
  | n + 1, v => stepI (stepN n v)
def crc8 (i : Nat) : Int := stepN 8 i
def tabN (i : Nat) : List SV := (List.range 256).map fun j => .v (.int .u32 (if j < i then crc8 j else 0))
def tabM (h : List SV) (i : Nat) : List SV := h ++ tabN i
theorem tabM_len {h : List SV} (h3 : h.length = 3) (i : Nat) : (tabM h i).length = 259 := by simp [tabM, tabN, h3]
theorem tabM_step {h : List SV} (h3 : h.length = 3) {i : Nat} (hi : i < 256) : over (tabM h i) (3 + i) [.v (.int .u32 (crc8 i))] = tabM h (i + 1) := by
  unfold over tabM
  apply List.ext_getElem?
  intro j
  by_cases h1 : j < 3
  · rw [List.getElem?_append_left (by simp [tabN, h3]; omega), List.getElem?_append_left (by simp [tabN, h3]; omega), List.getElem?_take, if_pos (by omega), List.getElem?_append_left (by omega), List.getElem?_append_left (by omega)]
  · rw [List.getElem?_append_right (l₁ := h) (by omega), h3]
    by_cases h2 : j < 3 + i
    · rw [List.getElem?_append_left (by simp [tabN, h3]; omega), List.getElem?_append_left (by simp [tabN, h3]; omega), List.getElem?_take, if_pos (by omega), List.getElem?_append_right (by omega), h3]
      unfold tabN
      simp only [List.getElem?_map, List.getElem?_range (show j - 3 < 256 by omega), Option.map_some]
      rw [if_pos (by omega), if_pos (by omega)]
    · by_cases h4 : j = 3 + i
      · subst h4
        rw [List.getElem?_append_left (by simp [tabN, h3]; omega), List.getElem?_append_right (by simp [tabN, h3]; omega)]
        have e : (3 + i - (List.take (3 + i) (h ++ tabN i)).length) = 0 := by simp [tabN, h3]; omega
        rw [e]
        unfold tabN
        rw [show 3 + i - 3 = i by omega]
        simp only [List.getElem?_map, List.getElem?_range hi, Option.map_some]
        rw [if_pos (by omega)]
        rfl
      · by_cases h5 : j < 259
        · rw [List.getElem?_append_right (by simp [tabN, h3]; omega), List.getElem?_drop]
          have e : 3 + i + [SV.v (.int .u32 (crc8 i))].length + (j - (List.take (3 + i) (h ++ tabN i) ++ [SV.v (.int .u32 (crc8 i))]).length) = j := by simp [tabN, h3]; omega
          rw [e, List.getElem?_append_right (by omega), h3]
          unfold tabN
          simp only [List.getElem?_map, List.getElem?_range (show j - 3 < 256 by omega), Option.map_some]
          rw [if_neg (by omega), if_neg (by omega)]
        · rw [List.getElem?_eq_none (by simp [tabN, h3]; omega), List.getElem?_eq_none (by simp [tabN]; omega)]
theorem w_u32 {x : Int} (h1 : 0 ≤ x) (h2 : x < 4294967296) : IntKind.u32.wrap x = x := by
  rw [IntKind.wrap_u32]; omega
def c172 [Inp] : Trans := fun args m k => match args with
  | [.ptr j 0] => ∃ h : List SV, h.length = 3 ∧ plainL h = true ∧ m[j]? = some ⟨true, tabM h 0⟩ ∧ k (.tup []) (m.set j ⟨true, tabM h 256⟩)
  | _ => False
theorem tabM_plain {h : List SV} (hp : plainL h = true) (i : Nat) : plainL (tabM h i) = true := by
  have : ∀ (a b : List SV), plainL a = true → plainL b = true → plainL (a ++ b) = true := by
    intro a b ha hb
    induction a with
    | nil => exact hb
    | cons x a ih => simp only [List.cons_append, plainL, Bool.and_eq_true] at ha ⊢; exact ⟨ha.1, ih ha.2⟩
  refine this _ _ hp ?_
  unfold tabN
  generalize List.range 256 = l
  induction l with
  | nil => rfl
  | cons x l ih => simp only [List.map_cons, plainL, SV.plain, Bool.true_and]; exact ih
theorem c172_ok [Inp] : Contract Try.prog 172 false c172 := by
  refine .meth fn172 (G := fun _ => []) (fun J => @g0 J _) _ fun args m k h => ?_
  unfold c172 at h
  split at h
  case h_2 => exact h.elim
  rename_i j
  obtain ⟨hd, h3, hp, hob, hk⟩ := h
  refine ⟨j, 0, [], _, rfl, hob, tabM_plain hp 0, by decide, fun J hJ vs hvs => ?_⟩
  obtain rfl : vs = [] := by simpa only [KnowsL] using hvs
  have hl := tabM_len h3
  have hL : ∀ i, LeL [0] (tabM hd i) (tabM hd i) := fun i => LeL_plain _ (tabM_plain hp i)
  simp (maxSteps := 2000000) -implicitDefEqProofs only [↓x172, ↓r172, s_alt, s_alt20, s_alt2t, s_alt2f, ↓s_loopi, ↓v_pq, ↓PRE, POST, CORE, Nat.reduceDiv, Nat.reduceMod, Int.reduceLT, Int.reduceLE, Int.reduceToNat, Int.reduceAdd, ↓reduceIte, Nat.reduceEqDiff, Nat.reduceAdd, Nat.reduceMul, Nat.reduceSub, Nat.reduceLeDiff, Nat.reduceLT, reduceCtorEq, if_true, eq_self, forall_const, implies_true]
  refine TXi_of (TX_count (g0 _) 256 (fun x => [(0, .ptr 0 0), (5, .v (.int .i64 (x : Int)))]) (fun x => [⟨true, tabM hd x⟩]) (fun x => True) trivial ?_ ?_ ?_)
  · exact (by refine ⟨[0], by simp [NdL, NdA, oO_cells, oO_own, iL_nil], ?_, ?_, keep1 hJ rfl⟩ <;> simp only [FitM, FitE, ObLe, LeL, Le, List.cons_append, List.nil_append] <;> (try (simp (maxSteps := 2000000) -implicitDefEqProofs only [hL, s_alt, s_alt20, s_alt2t, s_alt2f, ↓s_loopi, ↓v_pq, ↓PRE, POST, CORE, Nat.reduceDiv, Nat.reduceMod, Int.reduceLT, Int.reduceLE, Int.reduceToNat, Int.reduceAdd, ↓reduceIte, Nat.reduceEqDiff, Nat.reduceAdd, Nat.reduceMul, Nat.reduceSub, Nat.reduceLeDiff, Nat.reduceLT, reduceCtorEq, if_true, eq_self, forall_const, implies_true])) <;> (try simp only [Sz.Le, Sz.LeL, List.getElem?_cons_zero, List.getElem?_cons_succ]) <;> (try simp))
  · intro x hx _
    have i0 : (0 : Int) ≤ (x : Int) := by omega
    have i1 : (x : Int) < 256 := by omega
    have w1 : IntKind.i64.wrap ((x : Int) + 1) = (x : Int) + 1 := Sz.w_64 (by omega) (by omega)
    have w2 : IntKind.u32.wrap (x : Int) = (x : Int) := w_u32 (by omega) (by omega)
    simp (maxSteps := 2000000) -implicitDefEqProofs only [i0, i1, w1, w2, s_alt, s_alt20, s_alt2t, s_alt2f, ↓s_loopi, ↓v_pq, ↓PRE, POST, CORE, Nat.reduceDiv, Nat.reduceMod, Int.reduceLT, Int.reduceLE, Int.reduceToNat, Int.reduceAdd, ↓reduceIte, Nat.reduceEqDiff, Nat.reduceAdd, Nat.reduceMul, Nat.reduceSub, Nat.reduceLeDiff, Nat.reduceLT, reduceCtorEq, if_true, eq_self, forall_const, implies_true]
    refine TXi_of (TX_count (g0 _) 8 (fun y => [(0, .ptr 0 0), (2, .v (.int .i64 (x : Int))), (3, .v (.int .u32 (stepN y x))), (5, .v (.int .i64 (x : Int))), (10, .v (.int .i64 (y : Int)))]) (fun y => [⟨true, tabM hd x⟩]) (fun x => True) trivial ?_ ?_ ?_)
    · exact (by refine ⟨[0], by simp [NdL, NdA, oO_cells, oO_own, iL_nil], ?_, ?_, keep1 hJ rfl⟩ <;> simp only [FitM, FitE, ObLe, LeL, Le, List.cons_append, List.nil_append] <;> (try (simp (maxSteps := 2000000) -implicitDefEqProofs only [hL, stepN, s_alt, s_alt20, s_alt2t, s_alt2f, ↓s_loopi, ↓v_pq, ↓PRE, POST, CORE, Nat.reduceDiv, Nat.reduceMod, Int.reduceLT, Int.reduceLE, Int.reduceToNat, Int.reduceAdd, ↓reduceIte, Nat.reduceEqDiff, Nat.reduceAdd, Nat.reduceMul, Nat.reduceSub, Nat.reduceLeDiff, Nat.reduceLT, reduceCtorEq, if_true, eq_self, forall_const, implies_true])) <;> (try simp only [Sz.Le, Sz.LeL, List.getElem?_cons_zero, List.getElem?_cons_succ]) <;> (try simp))
    · intro y hy _
      have i2 : (0 : Int) ≤ (y : Int) := by omega
      have i3 : (y : Int) < 8 := by omega
      have w3 : IntKind.i64.wrap ((y : Int) + 1) = (y : Int) + 1 := Sz.w_64 (by omega) (by omega)
      simp (maxSteps := 2000000) -implicitDefEqProofs only [i2, i3, w3, s_alt, s_alt20, s_alt2t, s_alt2f, ↓s_loopi, ↓v_pq, ↓PRE, POST, CORE, Nat.reduceDiv, Nat.reduceMod, Int.reduceLT, Int.reduceLE, Int.reduceToNat, Int.reduceAdd, ↓reduceIte, Nat.reduceEqDiff, Nat.reduceAdd, Nat.reduceMul, Nat.reduceSub, Nat.reduceLeDiff, Nat.reduceLT, reduceCtorEq, if_true, eq_self, forall_const, implies_true]
      split
      · rename_i hc
        have e : stepN (y + 1) x = xoI (shI (stepN y x)) 2197175160 := if_pos (by simpa [lowI] using hc)
        rw [e]
        exact (by refine ⟨[0], by simp [NdL, NdA, oO_cells, oO_own, iL_nil], ?_, ?_, keep1 hJ rfl⟩ <;> simp only [FitM, FitE, ObLe, LeL, Le, List.cons_append, List.nil_append] <;> (try (simp (maxSteps := 2000000) -implicitDefEqProofs only [hL, shI, xoI, s_alt, s_alt20, s_alt2t, s_alt2f, ↓s_loopi, ↓v_pq, ↓PRE, POST, CORE, Nat.reduceDiv, Nat.reduceMod, Int.reduceLT, Int.reduceLE, Int.reduceToNat, Int.reduceAdd, ↓reduceIte, Nat.reduceEqDiff, Nat.reduceAdd, Nat.reduceMul, Nat.reduceSub, Nat.reduceLeDiff, Nat.reduceLT, reduceCtorEq, if_true, eq_self, forall_const, implies_true])) <;> (try simp only [Sz.Le, Sz.LeL, List.getElem?_cons_zero, List.getElem?_cons_succ]) <;> (try simp))
      · rename_i hc
        have e : stepN (y + 1) x = shI (stepN y x) := if_neg (by simpa [lowI] using hc)
        rw [e]
        exact (by refine ⟨[0], by simp [NdL, NdA, oO_cells, oO_own, iL_nil], ?_, ?_, keep1 hJ rfl⟩ <;> simp only [FitM, FitE, ObLe, LeL, Le, List.cons_append, List.nil_append] <;> (try (simp (maxSteps := 2000000) -implicitDefEqProofs only [hL, shI, xoI, s_alt, s_alt20, s_alt2t, s_alt2f, ↓s_loopi, ↓v_pq, ↓PRE, POST, CORE, Nat.reduceDiv, Nat.reduceMod, Int.reduceLT, Int.reduceLE, Int.reduceToNat, Int.reduceAdd, ↓reduceIte, Nat.reduceEqDiff, Nat.reduceAdd, Nat.reduceMul, Nat.reduceSub, Nat.reduceLeDiff, Nat.reduceLT, reduceCtorEq, if_true, eq_self, forall_const, implies_true])) <;> (try simp only [Sz.Le, Sz.LeL, List.getElem?_cons_zero, List.getElem?_cons_succ]) <;> (try simp))
    · intro _
      simp (maxSteps := 2000000) -implicitDefEqProofs only [i0, i1, w1, hl, s_alt, s_alt20, s_alt2t, s_alt2f, ↓s_loopi, ↓v_pq, ↓PRE, POST, CORE, Nat.reduceDiv, Nat.reduceMod, Int.reduceLT, Int.reduceLE, Int.reduceToNat, Int.reduceAdd, ↓reduceIte, Nat.reduceEqDiff, Nat.reduceAdd, Nat.reduceMul, Nat.reduceSub, Nat.reduceLeDiff, Nat.reduceLT, reduceCtorEq, if_true, eq_self, forall_const, implies_true]
      refine ⟨by omega, ?_⟩
      rw [show stepN 8 (x : Int) = crc8 x from rfl, tabM_step h3 hx]
      exact (by refine ⟨[0], by simp [NdL, NdA, oO_cells, oO_own, iL_nil], ?_, ?_, keep1 hJ rfl⟩ <;> simp only [FitM, FitE, ObLe, LeL, Le, List.cons_append, List.nil_append] <;> (try (simp (maxSteps := 2000000) -implicitDefEqProofs only [hL, s_alt, s_alt20, s_alt2t, s_alt2f, ↓s_loopi, ↓v_pq, ↓PRE, POST, CORE, Nat.reduceDiv, Nat.reduceMod, Int.reduceLT, Int.reduceLE, Int.reduceToNat, Int.reduceAdd, ↓reduceIte, Nat.reduceEqDiff, Nat.reduceAdd, Nat.reduceMul, Nat.reduceSub, Nat.reduceLeDiff, Nat.reduceLT, reduceCtorEq, if_true, eq_self, forall_const, implies_true])) <;> (try simp only [Sz.Le, Sz.LeL, List.getElem?_cons_zero, List.getElem?_cons_succ]) <;> (try simp))
  · intro _
    simp (maxSteps := 2000000) -implicitDefEqProofs only [hl, s_alt, s_alt20, s_alt2t, s_alt2f, ↓s_loopi, ↓v_pq, ↓PRE, POST, CORE, Nat.reduceDiv, Nat.reduceMod, Int.reduceLT, Int.reduceLE, Int.reduceToNat, Int.reduceAdd, ↓reduceIte, Nat.reduceEqDiff, Nat.reduceAdd, Nat.reduceMul, Nat.reduceSub, Nat.reduceLeDiff, Nat.reduceLT, reduceCtorEq, if_true, eq_self, forall_const, implies_true]
    exact ⟨_, rfl, tabM_plain hp 256, hk⟩
def hd0 : List SV := [.v (.int .u32 0), .v (.int .i32 0), .v (.int .u32 0)]
def hdm : List SV := [.v (.int .u32 0), .v (.int .i32 1), .v (.int .u32 0)]
def hd1 : List SV := [.v (.int .u32 1), .v (.int .i32 0), .v (.int .u32 0)]
def c171 [Inp] : Trans := fun args m k => match args with
  | [.ptr j 0, .bnd f [.ptr j' 0]] => (f = 172 ∧ j' = j ∧ m[j]? = some ⟨true, tabM hd0 0⟩) ∧ k (.tup []) (m.set j ⟨true, tabM hd1 256⟩)
  | _ => False
theorem c171_ok [Inp] : Contract Try.prog 171 false c171 := by
  refine ⟨⟨_, Try.func171, by kernel_rfl, by kernel_rfl⟩, fun args m k base w0 W r vs ht hst ha => ?_⟩
  unfold c171 at ht
  split at ht
  case h_2 => exact ht.elim
  rename_i j f j'
  obtain ⟨⟨rfl, rfl, hob⟩, hk⟩ := ht
  obtain ⟨l, t1, hl, rfl, ha1⟩ := ptr_inv ha
  simp only [SV.IsL, SV.Is] at ha1
  obtain ⟨u2, t2, rfl, ⟨us2, rfl, u3, t3, rfl, ⟨l3, hl3, rfl⟩, rfl⟩, rfl⟩ := ha1
  rw [hl] at hl3; injection hl3 with hl3; subst hl3
  have hj : j' < m.length := (List.getElem?_eq_some_iff.1 hob).1
  have len0 : ∀ h : List SV, h.length = 3 → ∀ i o, o ≤ 2 → o < (tabM h i).length := fun h h3 i o ho => by rw [tabM_len h3]; omega
  obtain ⟨l4, x0, hl4, h0, i0⟩ := hst.cellAt (o := 0) (s := .v (.int .u32 0)) hob rfl
  rw [hl] at hl4; injection hl4 with hl4; subst hl4
  obtain ⟨l5, x1, hl5, h1, i1⟩ := hst.cellAt (o := 1) (s := .v (.int .i32 0)) hob rfl
  rw [hl] at hl5; injection hl5 with hl5; subst hl5
  simp only [SV.Is] at i0 i1
  subst i0 i1
  obtain ⟨f1, hst1⟩ := hst.setAt (o := 1) (s' := .v (.int .i32 1)) (u := .int .i32 1) hl hob rfl (len0 hd0 rfl 0 1 (by omega)) (by simp only [SV.Is])
  have hob1 : (m.set j' ⟨true, (tabM hd0 0).set 1 (.v (.int .i32 1))⟩)[j']? = some ⟨true, tabM hdm 0⟩ := by
    rw [List.getElem?_set_self hj]
    rfl
  have hcall := c172_ok.calls [.ptr j' 0] _ (fun _ m' => m' = (m.set j' ⟨true, (tabM hd0 0).set 1 (.v (.int .i32 1))⟩).set j' ⟨true, tabM hdm 256⟩) base w0 _ r [.pointer (some ⟨l.blk, l.off + 0, none⟩)] ⟨hdm, rfl, rfl, hob1, rfl⟩ hst1 (by
    simp only [SV.IsL, SV.Is]
    exact ⟨_, _, rfl, ⟨l, hl, rfl⟩, rfl⟩)
  rw [List.set_set] at hcall
  have hobE : (m.set j' ⟨true, tabM hdm 256⟩)[j']? = some ⟨true, tabM hdm 256⟩ := List.getElem?_set_self hj
  have app : ∀ t, (r ++ t)[j']? = some l := fun t => by rw [List.getElem?_append_left (List.getElem?_eq_some_iff.1 hl).1]; exact hl
  refine (n_do l.blk l.off W (fun w2 => ∃ t, St base w0 (r ++ t) (m.set j' ⟨true, tabM hdm 256⟩) w2) h0 h1 f1 (hcall.mono ?_) ?_).mono ?_
  · rintro e W1 ⟨s, m', t, u, rfl, rfl, hst2, _, _⟩
    exact ⟨⟨u, rfl⟩, t, hst2⟩
  · rintro w2 ⟨t, hst2⟩
    obtain ⟨l6, y0, hl6, g0, _⟩ := hst2.cellAt (o := 0) (s := .v (.int .u32 0)) hobE rfl
    rw [app] at hl6; injection hl6 with hl6; subst hl6
    obtain ⟨l7, y1, hl7, g1, e1⟩ := hst2.cellAt (o := 1) (s := .v (.int .i32 1)) hobE rfl
    rw [app] at hl7; injection hl7 with hl7; subst hl7
    simp only [SV.Is] at e1
    subst e1
    exact ⟨⟨_, g0⟩, g1, (hst2.setAt (o := 0) (s' := .v (.int .i32 1)) (u := .int .i32 1) (app t) hobE rfl (len0 hdm rfl 256 0 (by omega)) (by simp only [SV.Is])).1, (hst2.setAt (o := 1) (s' := .v (.int .i32 1)) (u := .int .i32 1) (app t) hobE rfl (len0 hdm rfl 256 1 (by omega)) (by simp only [SV.Is])).1⟩
  · rintro e W1 ⟨rfl, w2, ⟨t, hst2⟩, rfl⟩
    have a1 := (hst2.drew.setAt (o := 0) (s' := .v (.int .u32 1)) (u := .int .u32 1) (app t) hobE rfl (len0 hdm rfl 256 0 (by omega)) (by simp only [SV.Is])).2
    rw [List.set_set] at a1
    have hobF : (m.set j' ⟨true, (tabM hdm 256).set 0 (.v (.int .u32 1))⟩)[j']? = some ⟨true, (tabM hdm 256).set 0 (.v (.int .u32 1))⟩ := List.getElem?_set_self hj
    have a2 := (a1.setAt (o := 1) (s' := .v (.int .i32 0)) (u := .int .i32 0) (app t) hobF rfl (by show 1 < ((tabM hdm 256).set 0 (.v (.int .u32 1))).length; rw [List.length_set]; exact len0 hdm rfl 256 1 (by omega)) (by simp only [SV.Is])).2
    rw [List.set_set] at a2
    exact ⟨.tup [], _, t, _, hk, rfl, a2, by simp only [SV.Is]; exact ⟨[], rfl, by simp only [SV.IsL]⟩, fun h => by cases h⟩
end Go.Proofs.Ytibefgdjijmncaa
end
section
namespace Go.Proofs.Ytibefgdjijmncaa
open Go.RowKit Sz
set_option maxHeartbeats 4000000
set_option maxRecDepth 20000
-- (*almshouse/sum.table).on (3 parameters)
def x165 : XC := (.seq (.tree (.seq ⟨some 6, none, (.ofA (.mv (.cst (.v (.int .u32 0)))))⟩
 .done))
 (.seq (.tree (.seq ⟨some 9, none, (.ofA (.mv (.tmp 0)))⟩
 (.seq ⟨some 10, none, (.ofA (.nilc (.tmp 9)))⟩
 (.seq ⟨some 11, none, (.ofA (.faddr 0 (.tmp 10)))⟩
 (.seq ⟨some 12, none, (.ofA (.mv (.tmp 0)))⟩
 (.seq ⟨some 13, none, (.ofA (.mkbnd 172 [(.tmp 12)]))⟩
 (.seq ⟨some 14, none, (.call (.cst (.fn 171 [])) [(.tmp 11), (.tmp 13)])⟩
 .done)))))))
 (.seq (.seq (.tree (.seq ⟨some 15, none, (.ofA (.mv (.tmp 2)))⟩
 (.seq ⟨some 16, none, (.ofA (.len (.tmp 15)))⟩
 (.seq ⟨some 17, none, (.ofA (.mv (.cst (.v (.int .i64 0)))))⟩
 .done))))
 (.block 0 (.loop (.seq (.tree (.seq ⟨some 18, none, (.ofA (.bin .lss (.tmp 17) (.tmp 16)))⟩
 .done))
 (.seq (.cond (.tmp 18)
 .skip
 (.exit 0))
 (.seq (.block 1 (.seq (.tree (.seq ⟨some 19, none, (.ofA (.isl 1 (.tmp 15) (.tmp 17)))⟩
 (.seq ⟨some 20, none, (.ofA (.load none (.tmp 19)))⟩
 (.seq ⟨some 8, none, (.ofA (.mv (.tmp 20)))⟩
 .done))))
 (.tree (.seq ⟨some 21, none, (.ofA (.mv (.tmp 1)))⟩
 (.seq ⟨some 22, none, (.ofA (.bin .shr (.tmp 21) (.cst (.v (.int .u64 8)))))⟩
 (.seq ⟨some 23, none, (.ofA (.mv (.tmp 0)))⟩
 (.seq ⟨some 24, none, (.ofA (.mv (.tmp 1)))⟩
 (.seq ⟨some 25, none, (.ofA (.conv .u8 (.tmp 24)))⟩
 (.seq ⟨some 26, none, (.ofA (.mv (.tmp 8)))⟩
 (.seq ⟨some 27, none, (.ofA (.bin .xor (.tmp 25) (.tmp 26)))⟩
 (.seq ⟨some 28, none, (.ofA (.nilc (.tmp 23)))⟩
 (.seq ⟨some 29, none, (.ofA (.faddr 3 (.tmp 28)))⟩
 (.seq ⟨some 30, none, (.ofA (.iarr 256 1 (.tmp 29) (.tmp 27)))⟩
 (.seq ⟨some 31, none, (.ofA (.load none (.tmp 30)))⟩
 (.seq ⟨some 32, none, (.ofA (.bin .xor (.tmp 22) (.tmp 31)))⟩
 (.seq ⟨some 1, none, (.ofA (.mv (.tmp 32)))⟩
 .done))))))))))))))))
 (.tree (.seq ⟨some 33, none, (.ofA (.bin .add (.tmp 17) (.cst (.v (.int .i64 1)))))⟩
 (.seq ⟨some 17, none, (.ofA (.mv (.tmp 33)))⟩
 .done)))))))))
 (.seq (.tree (.seq ⟨some 34, none, (.ofA (.mv (.tmp 1)))⟩
 (.seq ⟨some 6, none, (.ofA (.mv (.tmp 34)))⟩
 .done)))
 .ret))))
def r165 : List XR := [.tmp 6]
theorem fn165 : FnX Try.prog 165 [] 35 x165 r165 := ⟨_, Try.func165, by kernel_rfl, by kernel_rfl, by kernel_rfl, by kernel_rfl⟩
-- almshouse/sum.On (2 parameters)
def x147 : XC := (.seq (.tree (.seq ⟨some 4, none, (.ofA (.mv (.cst (.v (.int .u32 0)))))⟩
 .done))
 (.seq (.tree (.seq ⟨some 5, none, (.alloc (tabM hd0 0))⟩
 .done))
 (.seq (.tree (.seq ⟨some 6, none, (.ofA (.mv (.tmp 0)))⟩
 (.seq ⟨some 7, none, (.ofA (.un .xor (.tmp 6)))⟩
 (.seq ⟨some 8, none, (.ofA (.mv (.tmp 1)))⟩
 (.seq ⟨some 9, none, (.call (.cst (.fn 165 [])) [(.tmp 5), (.tmp 7), (.tmp 8)])⟩
 (.seq ⟨some 10, none, (.ofA (.un .xor (.tmp 9)))⟩
 (.seq ⟨some 4, none, (.ofA (.mv (.tmp 10)))⟩
 .done)))))))
 .ret)))
def r147 : List XR := [.tmp 4]
theorem fn147 : FnX Try.prog 147 [] 11 x147 r147 := ⟨_, Try.func147, by kernel_rfl, by kernel_rfl, by kernel_rfl, by kernel_rfl⟩
-- almshouse/sum.Of (1 parameters)
def x123 : XC := (.seq (.tree (.seq ⟨some 2, none, (.ofA (.mv (.cst (.v (.int .u32 0)))))⟩
 .done))
 (.seq (.tree (.seq ⟨some 3, none, (.ofA (.mv (.tmp 0)))⟩
 (.seq ⟨some 4, none, (.call (.cst (.fn 147 [])) [(.cst (.v (.int .u32 0))), (.tmp 3)])⟩
 (.seq ⟨some 2, none, (.ofA (.mv (.tmp 4)))⟩
 .done))))
 .ret))
def r123 : List XR := [.tmp 2]
theorem fn123 : FnX Try.prog 123 [] 5 x123 r123 := ⟨_, Try.func123, by kernel_rfl, by kernel_rfl, by kernel_rfl, by kernel_rfl⟩
def bL (xs : List Int) : List SV := xs.map fun x => .v (.int .u8 x)
theorem bL_eq (xs : List Int) : bL xs = (xs.map (Value.int .u8)).map SV.v := by simp [bL, List.map_map, Function.comp_def]
def decB : List SV → Option (List Int)
  | [] => some []
  | .v (.int .u8 x) :: l => (decB l).map (x :: ·)
  | _ :: _ => none
theorem decB_inv : ∀ {l : List SV} {xs : List Int}, decB l = some xs → l = bL xs
  | [], xs, h => by simp only [decB] at h; injection h with h; subst h; rfl
  | a :: l, xs, h => by
    unfold decB at h
    split at h
    · rename_i heq; cases heq
    · rename_i heq
      cases heq
      obtain ⟨ys, h1, rfl⟩ := Option.map_eq_some_iff.1 h
      rw [decB_inv h1]
      rfl
    · cases h
theorem decB_bL {xs : List Int} : decB (bL xs) = some xs := by
  induction xs with
  | nil => rfl
  | cons x xs ih =>
    show (decB (bL xs)).map (x :: ·) = _
    rw [ih]
    rfl
def rdB [Inp] (m : Mem) (s : SV) : Option (List Int) := (slOf m 1 s).bind fun p => decB p.2
theorem rdB_knows {I J : Inp} {m : Mem} {s : SV} {u : Value} {xs : List Int} (h : @rdB I m s = some xs) (hk : Knows I J m s u) :
    ∃ p c, u = .slice p xs.length c ∧ @inpL J p xs.length = some (xs.map (Value.int .u8)) := by
  unfold rdB at h
  obtain ⟨⟨n, ys⟩, h1, h2⟩ := Option.bind_eq_some_iff.1 h
  have h3 := decB_inv h2
  simp only at h3
  subst h3
  have hl := @slOf_len I _ _ _ _ _ h1
  have hn : n = xs.length := by simpa [bL] using hl.symm
  subst hn
  rw [bL_eq] at h1
  obtain ⟨p, c, rfl, h5⟩ := hk.2.2 1 _ _ h1
  rw [Nat.mul_one] at h5
  exact ⟨p, c, rfl, h5⟩
theorem rdB_v [Inp] {m : Mem} {p : Option Addr} {n c : Nat} {xs : List Int} (h : inpL p n = some (xs.map (Value.int .u8))) : rdB m (.v (.slice p n c)) = some xs := by
  unfold rdB
  simp only [slOf, Nat.mul_one, h, Option.map_some, Option.bind_some]
  rw [← bL_eq, decB_bL]
theorem inpB_at [Inp] {p : Option Addr} {xs : List Int} (h : inpL p xs.length = some (xs.map (Value.int .u8))) {i : Nat} {x : Int} (hx : xs[i]? = some x) : inpL (plusA p i) 1 = some [.int .u8 x] := by
  have hlt := (List.getElem?_eq_some_iff.1 hx).1
  rw [inpL_part h (by omega)]
  congr 1
  have := (List.getElem?_eq_some_iff.1 hx).2
  rw [← List.map_drop, ← List.map_take, List.drop_eq_getElem_cons hlt, this]
  rfl
def ixI (v c : Int) : Int := IntKind.u8.wrap (BitVec.ofInt IntKind.u8.bits (IntKind.u8.wrap v) ^^^ BitVec.ofInt IntKind.u8.bits c).toNat
theorem ixI_lo (v c : Int) : 0 ≤ ixI v c := by unfold ixI; rw [IntKind.wrap_u8]; omega
theorem ixI_hi (v c : Int) : ixI v c < 256 := by unfold ixI; rw [IntKind.wrap_u8]; omega
def sh8 (v : Int) : Int := v.fdiv (2 ^ (min (8 : Int).toNat IntKind.u32.bits))
def onS (v c : Int) : Int := xoI (sh8 v) (crc8 (ixI v c).toNat)
def onF (v : Int) (bs : List Int) : Int := bs.foldl onS v
theorem onF_snoc {v : Int} {bs : List Int} {x : Nat} {c : Int} (h : bs[x]? = some c) : onF v (bs.take (x + 1)) = onS (onF v (bs.take x)) c := by
  unfold onF
  rw [List.take_add_one, h]
  simp
theorem tabM_get {h : List SV} (h3 : h.length = 3) {i : Nat} (hi : i < 256) : (tabM h 256)[3 + i]? = some (.v (.int .u32 (crc8 i))) := by
  unfold tabM tabN
  rw [List.getElem?_append_right (by omega), h3, show 3 + i - 3 = i by omega]
  simp only [List.getElem?_map, List.getElem?_range hi, Option.map_some]
  rw [if_pos hi]
def c165 [Inp] : Trans := fun args m k => match args with
  | [.ptr j 0, .v (.int .u32 v), b] => (m[j]? = some ⟨true, tabM hd0 0⟩) ∧ ∃ bs : List Int, rdB (m.set j ⟨false, []⟩) b = some bs ∧ bs.length ≤ 9223372036854775807 ∧ k (.v (.int .u32 (onF v bs))) (m.set j ⟨true, tabM hd1 256⟩)
  | _ => False
theorem g171 [Inp] : GOk Try.prog [⟨171, false, c171⟩] := GOk.cons c171_ok (g0 _)
theorem c165_ok [Inp] : Contract Try.prog 165 false c165 := by
  refine .meth fn165 (G := fun J => [⟨171, false, @c171 J⟩]) (fun J => @g171 J) _ fun args m k h => ?_
  unfold c165 at h
  split at h
  case h_2 => exact h.elim
  rename_i j v b
  obtain ⟨hob, bs, hb, hmax, hk⟩ := h
  refine ⟨j, 0, [.v (.int .u32 v), b], _, rfl, hob, tabM_plain rfl 0, by simp, fun J hJ vs hvs => ?_⟩
  obtain ⟨u1, t1, rfl, hk1, u2, t2, rfl, hk2, rfl⟩ := hvs
  obtain rfl := hk1.1 _ rfl
  obtain ⟨p, c, rfl, hin⟩ := rdB_knows hb hk2
  have hl := tabM_len (h := hd1) rfl
  have hL : ∀ i, LeL [0] (tabM hd1 i) (tabM hd1 i) := fun i => LeL_plain _ (tabM_plain rfl i)
  simp (maxSteps := 2000000) -implicitDefEqProofs only [↓x165, ↓r165, c171, s_alt, s_alt20, s_alt2t, s_alt2f, ↓s_loopi, ↓v_pq, ↓PRE, POST, CORE, Nat.reduceDiv, Nat.reduceMod, Int.reduceLT, Int.reduceLE, Int.reduceToNat, Int.reduceAdd, ↓reduceIte, Nat.reduceEqDiff, Nat.reduceAdd, Nat.reduceMul, Nat.reduceSub, Nat.reduceLeDiff, Nat.reduceLT, reduceCtorEq, if_true, eq_self, forall_const, implies_true]
  refine TXi_of (TX_count (g171) bs.length (fun x => [(0, .ptr 0 0), (1, .v (.int .u32 (onF v (bs.take x)))), (15, .v (.slice p bs.length c)), (16, .v (.int .i64 (bs.length : Int))), (17, .v (.int .i64 (x : Int)))]) (fun x => [⟨true, tabM hd1 256⟩]) (fun x => True) trivial ?_ ?_ ?_)
  · exact (by refine ⟨[0], by simp [NdL, NdA, oO_cells, oO_own, iL_nil], ?_, ?_, keep1 hJ rfl⟩ <;> simp only [FitM, FitE, ObLe, LeL, Le, List.cons_append, List.nil_append] <;> (try (simp (maxSteps := 2000000) -implicitDefEqProofs only [hL, List.take_zero, onF, List.foldl_nil, s_alt, s_alt20, s_alt2t, s_alt2f, ↓s_loopi, ↓v_pq, ↓PRE, POST, CORE, Nat.reduceDiv, Nat.reduceMod, Int.reduceLT, Int.reduceLE, Int.reduceToNat, Int.reduceAdd, ↓reduceIte, Nat.reduceEqDiff, Nat.reduceAdd, Nat.reduceMul, Nat.reduceSub, Nat.reduceLeDiff, Nat.reduceLT, reduceCtorEq, if_true, eq_self, forall_const, implies_true])) <;> (try simp only [Sz.Le, Sz.LeL, List.getElem?_cons_zero, List.getElem?_cons_succ]) <;> (try simp))
  · intro x hx _
    obtain ⟨b0, hb0⟩ : ∃ b0, bs[x]? = some b0 := ⟨_, List.getElem?_eq_getElem hx⟩
    have f := inpB_at hin hb0
    have hp : p.isSome = true := inpL_isSome hin (by omega)
    have i0 : (0 : Int) ≤ (x : Int) := by omega
    have i1 : (x : Int) < (bs.length : Int) := by omega
    have w1 : IntKind.i64.wrap ((x : Int) + 1) = (x : Int) + 1 := Sz.w_64 (by omega) (by omega)
    have e := onF_snoc (v := v) hb0
    generalize onF v (bs.take x) = y at e ⊢
    have j0 : 0 ≤ ixI y b0 := ixI_lo y b0
    have j1 : ixI y b0 < 256 := ixI_hi y b0
    have j2 := tabM_get (h := hd1) rfl (i := (ixI y b0).toNat) (by omega)
    simp only [onS, ixI, sh8, xoI] at e j0 j1 j2
    simp (maxSteps := 2000000) -implicitDefEqProofs only [f, hp, i0, i1, w1, j0, j1, j2, s_alt, s_alt20, s_alt2t, s_alt2f, ↓s_loopi, ↓v_pq, ↓PRE, POST, CORE, Nat.reduceDiv, Nat.reduceMod, Int.reduceLT, Int.reduceLE, Int.reduceToNat, Int.reduceAdd, ↓reduceIte, Nat.reduceEqDiff, Nat.reduceAdd, Nat.reduceMul, Nat.reduceSub, Nat.reduceLeDiff, Nat.reduceLT, reduceCtorEq, if_true, eq_self, forall_const, implies_true]
    rw [e]
    exact (by refine ⟨[0], by simp [NdL, NdA, oO_cells, oO_own, iL_nil], ?_, ?_, keep1 hJ rfl⟩ <;> simp only [FitM, FitE, ObLe, LeL, Le, List.cons_append, List.nil_append] <;> (try (simp (maxSteps := 2000000) -implicitDefEqProofs only [hL, s_alt, s_alt20, s_alt2t, s_alt2f, ↓s_loopi, ↓v_pq, ↓PRE, POST, CORE, Nat.reduceDiv, Nat.reduceMod, Int.reduceLT, Int.reduceLE, Int.reduceToNat, Int.reduceAdd, ↓reduceIte, Nat.reduceEqDiff, Nat.reduceAdd, Nat.reduceMul, Nat.reduceSub, Nat.reduceLeDiff, Nat.reduceLT, reduceCtorEq, if_true, eq_self, forall_const, implies_true])) <;> (try simp only [Sz.Le, Sz.LeL, List.getElem?_cons_zero, List.getElem?_cons_succ]) <;> (try simp))
  · intro _
    have i1 : ¬ (bs.length : Int) < (bs.length : Int) := by omega
    simp (maxSteps := 2000000) -implicitDefEqProofs only [i1, List.take_length, s_alt, s_alt20, s_alt2t, s_alt2f, ↓s_loopi, ↓v_pq, ↓PRE, POST, CORE, Nat.reduceDiv, Nat.reduceMod, Int.reduceLT, Int.reduceLE, Int.reduceToNat, Int.reduceAdd, ↓reduceIte, Nat.reduceEqDiff, Nat.reduceAdd, Nat.reduceMul, Nat.reduceSub, Nat.reduceLeDiff, Nat.reduceLT, reduceCtorEq, if_true, eq_self, forall_const, implies_true]
    exact ⟨_, rfl, tabM_plain rfl 256, hk⟩
def noI (v : Int) : Int := IntKind.u32.wrap (BitVec.ofInt IntKind.u32.bits (if IntKind.u32.signed then -1 else IntKind.u32.max) ^^^ BitVec.ofInt IntKind.u32.bits v).toNat
def sumF (s : Int) (bs : List Int) : Int := noI (onF (noI s) bs)
def c147 [Inp] : Trans := fun args m k => match args with
  | [.v (.int .u32 s), b] => ∃ bs : List Int, rdB m b = some bs ∧ bs.length ≤ 9223372036854775807 ∧ k (.v (.int .u32 (sumF s bs))) m
  | _ => False
theorem g165 [Inp] : GOk Try.prog [⟨165, false, c165⟩] := GOk.cons c165_ok (g0 _)
theorem c147_ok [Inp] : Contract Try.prog 147 true c147 := by
  refine .read fn147 (G := fun J => [⟨165, false, @c165 J⟩]) (fun J => @g165 J) _ fun args m k h => ?_
  unfold c147 at h
  split at h
  case h_2 => exact h.elim
  rename_i v b
  obtain ⟨bs, hb, hmax, hk⟩ := h
  refine ⟨by simp, fun J hJ vs hvs => ?_⟩
  obtain ⟨u1, t1, rfl, hk1, u2, t2, rfl, hk2, rfl⟩ := hvs
  obtain rfl := hk1.1 _ rfl
  obtain ⟨p, c, rfl, hin⟩ := rdB_knows hb hk2
  have hr : ∀ m, rdB m (.v (.slice p bs.length c)) = some bs := fun m => rdB_v hin
  simp (maxSteps := 2000000) -implicitDefEqProofs only [↓x147, ↓r147, c165, hr, s_alt, s_alt20, s_alt2t, s_alt2f, ↓s_loopi, ↓v_pq, ↓PRE, POST, CORE, Nat.reduceDiv, Nat.reduceMod, Int.reduceLT, Int.reduceLE, Int.reduceToNat, Int.reduceAdd, ↓reduceIte, Nat.reduceEqDiff, Nat.reduceAdd, Nat.reduceMul, Nat.reduceSub, Nat.reduceLeDiff, Nat.reduceLT, reduceCtorEq, if_true, eq_self, forall_const, implies_true]
  exact ⟨bs, rfl, hmax, hk⟩
theorem g147 [Inp] : GOk Try.prog [⟨147, true, c147⟩] := GOk.cons c147_ok (g0 _)
def c123 [Inp] : Trans := fun args m k => match args with
  | [b] => ∃ bs : List Int, rdB m b = some bs ∧ bs.length ≤ 9223372036854775807 ∧ k (.v (.int .u32 (sumF 0 bs))) m
  | _ => False
theorem c123_ok [Inp] : Contract Try.prog 123 true c123 := by
  refine .read fn123 (G := fun J => [⟨147, true, @c147 J⟩]) (fun J => @g147 J) _ fun args m k h => ?_
  unfold c123 at h
  split at h
  case h_2 => exact h.elim
  rename_i b
  obtain ⟨bs, hb, hmax, hk⟩ := h
  refine ⟨by simp, fun J hJ vs hvs => ?_⟩
  obtain ⟨u2, t2, rfl, hk2, rfl⟩ := hvs
  obtain ⟨p, c, rfl, hin⟩ := rdB_knows hb hk2
  have hr : ∀ m, rdB m (.v (.slice p bs.length c)) = some bs := fun m => rdB_v hin
  simp (maxSteps := 2000000) -implicitDefEqProofs only [↓x123, ↓r123, c147, hr, s_alt, s_alt20, s_alt2t, s_alt2f, ↓s_loopi, ↓v_pq, ↓PRE, POST, CORE, Nat.reduceDiv, Nat.reduceMod, Int.reduceLT, Int.reduceLE, Int.reduceToNat, Int.reduceAdd, ↓reduceIte, Nat.reduceEqDiff, Nat.reduceAdd, Nat.reduceMul, Nat.reduceSub, Nat.reduceLeDiff, Nat.reduceLT, reduceCtorEq, if_true, eq_self, forall_const, implies_true]
  exact ⟨bs, rfl, hmax, hk⟩
end Go.Proofs.Ytibefgdjijmncaa
end
section
namespace Go.Proofs.Ytibefgdjijmncaa
open Go.RowKit Sz
set_option maxHeartbeats 4000000
set_option maxRecDepth 20000
-- almshouse/word.sized (1 parameters)
def x96 : XC := (.seq (.tree (.seq ⟨some 2, none, (.ofA (.mv (.cst (.v (.bool false)))))⟩
 .done))
 (.seq (.tree (.seq ⟨some 3, none, (.ofA (.mv (.tmp 0)))⟩
 (.seq ⟨some 4, none, (.ofA (.bin .eql (.tmp 3) (.cst (.v (.int .i64 1)))))⟩
 (.seq ⟨some 5, none, (.ofA (.mv (.tmp 4)))⟩
 (.seq ⟨some 6, some (5, false), (.ofA (.mv (.tmp 0)))⟩
 (.seq ⟨some 7, some (5, false), (.ofA (.bin .eql (.tmp 6) (.cst (.v (.int .i64 2)))))⟩
 (.seq ⟨some 8, none, (.ofA (.pick (.tmp 5) (.cst (.v (.bool true))) (.tmp 7)))⟩
 (.seq ⟨some 9, none, (.ofA (.mv (.tmp 8)))⟩
 (.seq ⟨some 10, some (9, false), (.ofA (.mv (.tmp 0)))⟩
 (.seq ⟨some 11, some (9, false), (.ofA (.bin .eql (.tmp 10) (.cst (.v (.int .i64 4)))))⟩
 (.seq ⟨some 12, none, (.ofA (.pick (.tmp 9) (.cst (.v (.bool true))) (.tmp 11)))⟩
 (.seq ⟨some 2, none, (.ofA (.mv (.tmp 12)))⟩
 .done))))))))))))
 .ret))
def r96 : List XR := [.tmp 2]
theorem fn96 : FnX Try.prog 96 [] 13 x96 r96 := ⟨_, Try.func96, by kernel_rfl, by kernel_rfl, by kernel_rfl, by kernel_rfl⟩
-- almshouse/word.Fits (2 parameters)
def x91 : XC := (.seq (.tree (.seq ⟨some 4, none, (.ofA (.mv (.cst (.v (.bool false)))))⟩
 .done))
 (.seq (.tree (.seq ⟨some 5, none, (.ofA (.mv (.tmp 1)))⟩
 (.seq ⟨some 6, none, (.call (.cst (.fn 96 [])) [(.tmp 5)])⟩
 (.seq ⟨some 7, none, (.ofA (.mv (.tmp 6)))⟩
 (.seq ⟨some 8, some (7, true), (.ofA (.mv (.tmp 0)))⟩
 (.seq ⟨some 9, some (7, true), (.ofA (.mv (.tmp 1)))⟩
 (.seq ⟨some 10, some (7, true), (.ofA (.bin .mul (.cst (.v (.int .i64 8))) (.tmp 9)))⟩
 (.seq ⟨some 11, some (7, true), (.ofA (.conv .u64 (.tmp 10)))⟩
 (.seq ⟨some 12, some (7, true), (.ofA (.bin .shr (.tmp 8) (.tmp 11)))⟩
 (.seq ⟨some 13, some (7, true), (.ofA (.bin .eql (.tmp 12) (.cst (.v (.int .i64 0)))))⟩
 (.seq ⟨some 14, none, (.ofA (.pick (.tmp 7) (.tmp 13) (.cst (.v (.bool false)))))⟩
 (.seq ⟨some 4, none, (.ofA (.mv (.tmp 14)))⟩
 .done))))))))))))
 .ret))
def r91 : List XR := [.tmp 4]
theorem fn91 : FnX Try.prog 91 [] 15 x91 r91 := ⟨_, Try.func91, by kernel_rfl, by kernel_rfl, by kernel_rfl, by kernel_rfl⟩
-- slices.Clone[[]byte,byte] (1 parameters)
def x90 : XC := (.seq (.tree (.seq ⟨some 2, none, (.ofA (.mv (.cst (.v (.slice none 0 0)))))⟩
 .done))
 (.seq (.seq (.tree (.seq ⟨some 3, none, (.ofA (.mv (.tmp 0)))⟩
 (.seq ⟨some 4, none, (.ofA (.eqn false 2 (.tmp 3) (.cst (.v (.slice none 0 0)))))⟩
 .done)))
 (.cond (.tmp 4)
 (.seq (.tree (.seq ⟨some 2, none, (.ofA (.mv (.cst (.v (.slice none 0 0)))))⟩
 .done))
 .ret)
 .skip))
 (.seq (.tree (.seq ⟨some 5, none, (.buildSl 1 0 [] [])⟩
 (.seq ⟨some 6, none, (.ofA (.mv (.tmp 0)))⟩
 (.seq ⟨some 7, none, (.app 1 1 (.tmp 5) (.tmp 6))⟩
 (.seq ⟨some 2, none, (.ofA (.mv (.tmp 7)))⟩
 .done)))))
 .ret)))
def r90 : List XR := [.tmp 2]
theorem fn90 : FnX Try.prog 90 [] 8 x90 r90 := ⟨_, Try.func90, by kernel_rfl, by kernel_rfl, by kernel_rfl, by kernel_rfl⟩
-- slices.Clip[[]byte,byte] (1 parameters)
def x89 : XC := (.seq (.tree (.seq ⟨some 2, none, (.ofA (.mv (.cst (.v (.slice none 0 0)))))⟩
 .done))
 (.seq (.tree (.seq ⟨some 3, none, (.ofA (.mv (.tmp 0)))⟩
 (.seq ⟨some 4, none, (.ofA (.mv (.tmp 0)))⟩
 (.seq ⟨some 5, none, (.ofA (.len (.tmp 4)))⟩
 (.seq ⟨some 6, none, (.ofA (.mv (.tmp 0)))⟩
 (.seq ⟨some 7, none, (.ofA (.len (.tmp 6)))⟩
 (.seq ⟨some 8, none, (.ofA (.slc3 1 (.tmp 3) none (.tmp 5) (.tmp 7)))⟩
 (.seq ⟨some 2, none, (.ofA (.mv (.tmp 8)))⟩
 .done))))))))
 .ret))
def r89 : List XR := [.tmp 2]
theorem fn89 : FnX Try.prog 89 [] 9 x89 r89 := ⟨_, Try.func89, by kernel_rfl, by kernel_rfl, by kernel_rfl, by kernel_rfl⟩
-- almshouse/word.Put (3 parameters)
def x46 : XC := (.seq (.tree (.seq ⟨some 6, none, (.ofA (.mv (.cst (.v (.slice none 0 0)))))⟩
 .done))
 (.seq (.tree (.seq ⟨some 8, none, (.ofA (.mv (.tmp 0)))⟩
 (.seq ⟨some 9, none, (.call (.cst (.fn 90 [])) [(.tmp 8)])⟩
 (.seq ⟨some 10, none, (.call (.cst (.fn 89 [])) [(.tmp 9)])⟩
 (.seq ⟨some 7, none, (.ofA (.mv (.tmp 10)))⟩
 .done)))))
 (.seq (.seq (.tree (.seq ⟨some 11, none, (.ofA (.mv (.tmp 1)))⟩
 (.seq ⟨some 12, none, (.ofA (.mv (.tmp 2)))⟩
 (.seq ⟨some 13, none, (.call (.cst (.fn 91 [])) [(.tmp 11), (.tmp 12)])⟩
 (.seq ⟨some 14, none, (.ofA (.un .not (.tmp 13)))⟩
 .done)))))
 (.cond (.tmp 14)
 (.seq (.tree (.seq ⟨some 15, none, (.ofA (.mv (.tmp 7)))⟩
 (.seq ⟨some 6, none, (.ofA (.mv (.tmp 15)))⟩
 .done)))
 .ret)
 .skip))
 (.seq (.seq (.tree (.seq ⟨some 16, none, (.ofA (.mv (.tmp 2)))⟩
 (.seq ⟨some 17, none, (.ofA (.mv (.cst (.v (.int .i64 0)))))⟩
 .done)))
 (.block 0 (.loop (.seq (.tree (.seq ⟨some 18, none, (.ofA (.bin .lss (.tmp 17) (.tmp 16)))⟩
 .done))
 (.seq (.cond (.tmp 18)
 .skip
 (.exit 0))
 (.seq (.block 1 (.seq (.tree (.seq ⟨some 19, none, (.ofA (.mv (.tmp 7)))⟩
 (.seq ⟨some 20, none, (.ofA (.mv (.tmp 1)))⟩
 (.seq ⟨some 21, none, (.ofA (.conv .u8 (.tmp 20)))⟩
 (.seq ⟨some 22, none, (.buildSl 1 1 [(.v (.int .u8 0))] [(0, 1, (.tmp 21))])⟩
 (.seq ⟨some 23, none, (.app 1 1 (.tmp 19) (.tmp 22))⟩
 (.seq ⟨some 7, none, (.ofA (.mv (.tmp 23)))⟩
 .done)))))))
 (.tree (.seq ⟨some 24, none, (.ofA (.mv (.tmp 1)))⟩
 (.seq ⟨some 25, none, (.ofA (.bin .shr (.tmp 24) (.cst (.v (.int .u64 8)))))⟩
 (.seq ⟨some 1, none, (.ofA (.mv (.tmp 25)))⟩
 .done))))))
 (.tree (.seq ⟨some 26, none, (.ofA (.bin .add (.tmp 17) (.cst (.v (.int .i64 1)))))⟩
 (.seq ⟨some 17, none, (.ofA (.mv (.tmp 26)))⟩
 .done)))))))))
 (.seq (.tree (.seq ⟨some 27, none, (.ofA (.mv (.tmp 7)))⟩
 (.seq ⟨some 6, none, (.ofA (.mv (.tmp 27)))⟩
 .done)))
 .ret)))))
def r46 : List XR := [.tmp 6]
theorem fn46 : FnX Try.prog 46 [] 28 x46 r46 := ⟨_, Try.func46, by kernel_rfl, by kernel_rfl, by kernel_rfl, by kernel_rfl⟩
def sizedF (n : Int) : Bool := n == 1 || n == 2 || n == 4
def c96 [Inp] : Trans := fun args m k => match args with
  | [.v (.int .i64 n)] => k (.v (.bool (sizedF n))) m
  | _ => False
theorem c96_ok [Inp] : Contract Try.prog 96 true c96 := by
  refine .read fn96 (G := fun _ => []) (fun J => @g0 J _) _ fun args m k h => ?_
  unfold c96 at h
  split at h
  · rename_i n
    refine ⟨by simp, fun J hJ us hus => ?_⟩
    obtain ⟨u, t1, rfl, hk1, rfl⟩ := hus
    obtain rfl := hk1.1 _ rfl
    unfold sizedF at h
    cases h1 : (n == 1) <;> cases h2 : (n == 2) <;> cases h3 : (n == 4) <;> simp only [h1, h2, h3, Bool.or_true, Bool.or_false, Bool.true_or, Bool.false_or] at h <;> simp (maxSteps := 2000000) -implicitDefEqProofs only [↓x96, ↓r96, h1, h2, h3, s_alt, s_alt20, s_alt2t, s_alt2f, ↓s_loopi, ↓v_pq, ↓PRE, POST, CORE, Nat.reduceDiv, Nat.reduceMod, Int.reduceLT, Int.reduceLE, Int.reduceToNat, Int.reduceAdd, ↓reduceIte, Nat.reduceEqDiff, Nat.reduceAdd, Nat.reduceMul, Nat.reduceSub, Nat.reduceLeDiff, Nat.reduceLT, reduceCtorEq, if_true, eq_self, forall_const, implies_true] <;> exact h
  · exact h.elim
def fitsF (v n : Int) : Bool := sizedF n && (v.fdiv (2 ^ (min (8 * n).toNat IntKind.i64.bits)) == 0)
def c91 [Inp] : Trans := fun args m k => match args with
  | [.v (.int .i64 v), .v (.int .i64 n)] => k (.v (.bool (fitsF v n))) m
  | _ => False
theorem g96 [Inp] : GOk Try.prog [⟨96, true, c96⟩] := GOk.cons c96_ok (g0 _)
theorem c91_ok [Inp] : Contract Try.prog 91 true c91 := by
  refine .read fn91 (G := fun J => [⟨96, true, @c96 J⟩]) (fun J => @g96 J) _ fun args m k h => ?_
  unfold c91 at h
  split at h
  · rename_i v n
    refine ⟨by simp, fun J hJ us hus => ?_⟩
    obtain ⟨u, t1, rfl, hk1, u2, t2, rfl, hk2, rfl⟩ := hus
    obtain rfl := hk1.1 _ rfl
    obtain rfl := hk2.1 _ rfl
    unfold fitsF at h
    cases hs : sizedF n with
    | false =>
      simp only [hs, Bool.false_and] at h
      simp (maxSteps := 2000000) -implicitDefEqProofs only [↓x91, ↓r91, ↓c96, hs, s_alt, s_alt20, s_alt2t, s_alt2f, ↓s_loopi, ↓v_pq, ↓PRE, POST, CORE, Nat.reduceDiv, Nat.reduceMod, Int.reduceLT, Int.reduceLE, Int.reduceToNat, Int.reduceAdd, ↓reduceIte, Nat.reduceEqDiff, Nat.reduceAdd, Nat.reduceMul, Nat.reduceSub, Nat.reduceLeDiff, Nat.reduceLT, reduceCtorEq, if_true, eq_self, forall_const, implies_true]
      exact h
    | true =>
      have hn : n = 1 ∨ n = 2 ∨ n = 4 := by
        unfold sizedF at hs
        simp only [Bool.or_eq_true, beq_iff_eq] at hs
        omega
      simp only [hs, Bool.true_and] at h
      have a1 : (0 : Int) ≤ 8 * n := by omega
      have a2 : IntKind.i64.wrap (8 * n) = 8 * n := Sz.w_64 (by omega) (by omega)
      have a3 : IntKind.u64.wrap (8 * n) = 8 * n := by simp [IntKind.wrap, IntKind.bits, IntKind.signed]; omega
      simp (maxSteps := 2000000) -implicitDefEqProofs only [↓x91, ↓r91, ↓c96, hs, a1, a2, a3, s_alt, s_alt20, s_alt2t, s_alt2f, ↓s_loopi, ↓v_pq, ↓PRE, POST, CORE, Nat.reduceDiv, Nat.reduceMod, Int.reduceLT, Int.reduceLE, Int.reduceToNat, Int.reduceAdd, ↓reduceIte, Nat.reduceEqDiff, Nat.reduceAdd, Nat.reduceMul, Nat.reduceSub, Nat.reduceLeDiff, Nat.reduceLT, reduceCtorEq, if_true, eq_self, forall_const, implies_true]
      exact h
  · exact h.elim
theorem bL_len (xs : List Int) : (bL xs).length = xs.length := by simp [bL]
theorem bL_one (xs : List Int) : (bL xs).all SV.one = true := by
  induction xs with
  | nil => rfl
  | cons x xs ih => show ((SV.v (.int .u8 x)).one && (bL xs).all SV.one) = true; rw [ih]; rfl
theorem bL_fold {xs : List Int} : (xs.map (Value.int .u8)).map SV.v = bL xs := (bL_eq xs).symm
theorem bL_le (g : List Nat) (xs : List Int) : LeL g (bL xs) (bL xs) := by rw [bL_eq]; exact LeL_plain g (plainL_v _)
theorem bL_up (d : Nat) (xs : List Int) : upL d (bL xs) = bL xs := by rw [bL_eq]; exact upL_v d _
def c90 [Inp] : Trans := fun args m k => match args with
  | [s] => ∃ bs : List Int, rdB m s = some bs ∧ bs.length ≤ 1000000 ∧ (if bs = [] then s = .v (.slice none 0 0) ∧ k s m else k (.row m.length 0 bs.length 1) (m ++ [⟨true, bL bs⟩]))
  | _ => False
theorem c90_ok [Inp] : Contract Try.prog 90 true c90 := by
  refine .readF fn90 (G := fun _ => []) (fun J => @g0 J _) _ fun args m k h => ?_
  unfold c90 at h
  split at h
  case h_2 => exact h.elim
  rename_i b
  obtain ⟨bs, hb, hmax, hk⟩ := h
  refine ⟨by simp, fun J hJ us hus => ?_⟩
  obtain ⟨u, t1, rfl, hk1, rfl⟩ := hus
  split at hk
  · rename_i he
    subst he
    obtain ⟨rfl, hk⟩ := hk
    obtain rfl := hk1.1 _ rfl
    simp (maxSteps := 2000000) -implicitDefEqProofs only [↓x90, ↓r90, s_alt, s_alt20, s_alt2t, s_alt2f, ↓s_loopi, ↓v_pq, ↓PRE, POST, CORE, Nat.reduceDiv, Nat.reduceMod, Int.reduceLT, Int.reduceLE, Int.reduceToNat, Int.reduceAdd, ↓reduceIte, Nat.reduceEqDiff, Nat.reduceAdd, Nat.reduceMul, Nat.reduceSub, Nat.reduceLeDiff, Nat.reduceLT, reduceCtorEq, if_true, eq_self, forall_const, implies_true]
    refine ⟨[], .v (.slice none 0 0), [], by simp, trivial, by simp, by simp only [Le], ?_⟩
    simpa [SV.up] using hk
  · rename_i he
    obtain ⟨p, c, rfl, hin⟩ := rdB_knows hb hk1
    have hn : bs.length ≠ 0 := fun h => he (List.length_eq_zero_iff.1 h)
    have hp : p.isSome = true := inpL_isSome hin hn
    have hp2 : p.isNone = false := by cases p <;> simp_all
    have h0 : ¬ bs.length = 0 := hn
    have h1 := bL_len bs
    have h2 := bL_one bs
    have h3 : 0 < bs.length := by omega
    simp (maxSteps := 2000000) -implicitDefEqProofs only [↓x90, ↓r90, hp2, hin, h0, h1, h2, h3, bL_fold, s_alt, s_alt20, s_alt2t, s_alt2f, ↓s_loopi, ↓v_pq, ↓PRE, POST, CORE, Nat.reduceDiv, Nat.reduceMod, Int.reduceLT, Int.reduceLE, Int.reduceToNat, Int.reduceAdd, ↓reduceIte, Nat.reduceEqDiff, Nat.reduceAdd, Nat.reduceMul, Nat.reduceSub, Nat.reduceLeDiff, Nat.reduceLT, reduceCtorEq, if_true, eq_self, forall_const, implies_true]
    refine ⟨⟨by unfold maxLen; omega, by omega⟩, [1], .row 0 0 bs.length 1, [⟨true, bL bs⟩], by simp, ?_, by simp, by simp only [Le]; rfl, ?_⟩
    · simp [FitM, ObLe, bL_le]
    · simpa [SV.up, SObj.up, bL_up] using hk
def c89 [Inp] : Trans := fun args m k => match args with
  | [.row j o n 1] => k (.row j o n 1) m
  | [.v (.slice none 0 0)] => k (.v (.slice none 0 0)) m
  | _ => False
theorem c89_ok [Inp] : Contract Try.prog 89 false c89 := by
  refine .full fn89 (G := fun _ => []) (fun J => @g0 J _) _ fun args m k h => ?_
  unfold c89 at h
  split at h
  · rename_i j o n
    refine ⟨by simp, fun J hJ hA => ?_⟩
    simp (maxSteps := 2000000) -implicitDefEqProofs only [↓x89, ↓r89, s_alt, s_alt20, s_alt2t, s_alt2f, ↓s_loopi, ↓v_pq, ↓PRE, POST, CORE, Nat.reduceDiv, Nat.reduceMod, Int.reduceLT, Int.reduceLE, Int.reduceToNat, Int.reduceAdd, ↓reduceIte, Nat.reduceEqDiff, Nat.reduceAdd, Nat.reduceMul, Nat.reduceSub, Nat.reduceLeDiff, Nat.reduceLT, reduceCtorEq, if_true, eq_self, forall_const, implies_true]
    simpa using h
  · refine ⟨by simp, fun J hJ hA => ?_⟩
    simp (maxSteps := 2000000) -implicitDefEqProofs only [↓x89, ↓r89, s_alt, s_alt20, s_alt2t, s_alt2f, ↓s_loopi, ↓v_pq, ↓PRE, POST, CORE, Nat.reduceDiv, Nat.reduceMod, Int.reduceLT, Int.reduceLE, Int.reduceToNat, Int.reduceAdd, ↓reduceIte, Nat.reduceEqDiff, Nat.reduceAdd, Nat.reduceMul, Nat.reduceSub, Nat.reduceLeDiff, Nat.reduceLT, reduceCtorEq, if_true, eq_self, forall_const, implies_true]
    simpa [cutA] using h
  · exact h.elim
def shN : Nat → Int → Int
  | 0, v => v
  | i + 1, v => (shN i v).fdiv (2 ^ (min (8 : Int).toNat IntKind.i64.bits))
def leF (x : Nat) (v : Int) : List Int := (List.range x).map fun i => IntKind.u8.wrap (shN i v)
theorem leF_succ (x : Nat) (v : Int) : leF (x + 1) v = leF x v ++ [IntKind.u8.wrap (shN x v)] := by simp [leF, List.range_succ]
theorem leF_len (x : Nat) (v : Int) : (leF x v).length = x := by simp [leF]
def rowS (j : Nat) (L : List Int) : SV := if L = [] then .v (.slice none 0 0) else .row j 0 L.length 1
def rowM (L : List Int) : Mem := if L = [] then [] else [⟨true, bL L⟩]
def putF (bs : List Int) (v n : Int) : List Int := if fitsF v n = true then bs ++ leF n.toNat v else bs
def rdN [Inp] (m : Mem) (s : SV) (bs : List Int) : Prop := rdB m s = some bs ∧ (bs = [] → s = .v (.slice none 0 0))
def c46 [Inp] : Trans := fun args m k => match args with
  | [s, .v (.int .i64 v), .v (.int .i64 n)] => ∃ bs : List Int, rdN m s bs ∧ bs.length ≤ 900000 ∧ k (rowS m.length (putF bs v n)) (m ++ rowM (putF bs v n))
  | _ => False
def G134 [Inp] : List CEntry := [⟨90, true, c90⟩, ⟨89, false, c89⟩, ⟨91, true, c91⟩]
theorem g46 [Inp] : GOk Try.prog G134 := GOk.cons c90_ok (GOk.cons c89_ok (GOk.cons c91_ok (g0 _)))
theorem c46_ok [Inp] : Contract Try.prog 46 true c46 := by
  refine .readF fn46 (G := fun J => @G134 J) (fun J => @g46 J) _ fun args m k h => ?_
  unfold c46 at h
  split at h
  case h_2 => exact h.elim
  rename_i b v n
  obtain ⟨bs, ⟨hb, hnil⟩, hmax, hk⟩ := h
  refine ⟨by simp, fun J hJ us hus => ?_⟩
  obtain ⟨u, t1, rfl, hk1, u2, t2, rfl, hk2, u3, t3, rfl, hk3, rfl⟩ := hus
  obtain rfl := hk2.1 _ rfl
  obtain rfl := hk3.1 _ rfl
  have fin : ∀ (L : List Int) (m' : Mem) (s : SV) (j : Nat), (L = [] → s = .v (.slice none 0 0)) → (L ≠ [] → s = .row j 0 L.length 1 ∧ m'[j]? = some ⟨true, bL L⟩) → k (rowS m.length L) (m ++ rowM L) →
      ∃ (g2 : List Nat) (s2 : SV) (m2 : Mem), g2.Nodup ∧ FitM g2 m' g2 m2 ∧ (∀ o ∈ m2, o.own = true) ∧ Le g2 s2 s ∧ k (s2.up m.length) (m ++ m2.map (SObj.up m.length)) := by
    intro L m' s j h1 h2 h3
    by_cases hL : L = []
    · subst hL
      rw [h1 rfl]
      refine ⟨[], .v (.slice none 0 0), [], by simp, trivial, by simp, by simp only [Le], ?_⟩
      simpa [SV.up, rowS, rowM] using h3
    · obtain ⟨rfl, hm⟩ := h2 hL
      refine ⟨[j], .row 0 0 L.length 1, [⟨true, bL L⟩], by simp, ?_, by simp, by simp only [Le]; rfl, ?_⟩
      · simp [FitM, ObLe, bL_le, hm]
      · simpa [SV.up, SObj.up, bL_up, rowS, rowM, hL] using h3
  by_cases he : bs = []
  · subst he
    obtain rfl := hnil rfl
    obtain rfl := hk1.1 _ rfl
    simp (maxSteps := 2000000) -implicitDefEqProofs only [↓x46, ↓r46, ↓G134, ↓c90, s_alt, s_alt20, s_alt2t, s_alt2f, ↓s_loopi, ↓v_pq, ↓PRE, POST, CORE, Nat.reduceDiv, Nat.reduceMod, Int.reduceLT, Int.reduceLE, Int.reduceToNat, Int.reduceAdd, ↓reduceIte, Nat.reduceEqDiff, Nat.reduceAdd, Nat.reduceMul, Nat.reduceSub, Nat.reduceLeDiff, Nat.reduceLT, reduceCtorEq, if_true, eq_self, forall_const, implies_true]
    refine ⟨[], rfl, by simp, ?_⟩
    simp (maxSteps := 2000000) -implicitDefEqProofs only [↓G134, ↓c89, ↓c91, s_alt, s_alt20, s_alt2t, s_alt2f, ↓s_loopi, ↓v_pq, ↓PRE, POST, CORE, Nat.reduceDiv, Nat.reduceMod, Int.reduceLT, Int.reduceLE, Int.reduceToNat, Int.reduceAdd, ↓reduceIte, Nat.reduceEqDiff, Nat.reduceAdd, Nat.reduceMul, Nat.reduceSub, Nat.reduceLeDiff, Nat.reduceLT, reduceCtorEq, if_true, eq_self, forall_const, implies_true]
    split
    · rename_i hf
      have hf : fitsF v n = false := by simpa using hf
      have e : putF ([] : List Int) v n = ([] : List Int) := by unfold putF; rw [hf]; simp
      rw [e] at hk
      exact fin ([] : List Int) _ _ 0 (by simp [bL]) (by simp [bL]) hk
    · rename_i hf
      have hf : fitsF v n = true := by simpa using hf
      have e : putF ([] : List Int) v n = ([] : List Int) ++ leF n.toNat v := by unfold putF; rw [hf]; simp
      rw [e] at hk
      have hn : n = 1 ∨ n = 2 ∨ n = 4 := by
        unfold fitsF sizedF at hf
        simp only [Bool.and_eq_true, Bool.or_eq_true, beq_iff_eq] at hf
        omega
      have e0 : ([] : List Int) ++ leF 0 v = ([] : List Int) := by simp [leF]
      refine TXi_of (TX_count (g46) n.toNat (fun x => [(1, .v (.int .i64 (shN x v))), (7, rowS 0 (([] : List Int) ++ leF x v)), (16, .v (.int .i64 n)), (17, .v (.int .i64 (x : Int)))]) (fun x => rowM (([] : List Int) ++ leF x v)) (fun x => True) trivial ?_ ?_ ?_)
      · simp only [e0, rowS, rowM, if_true, shN]
        exact (by refine ⟨[], by simp [NdL, NdA, oO_cells, oO_own, iL_nil], ?_, ?_, keep0 hJ⟩ <;> simp only [FitM, FitE, ObLe, LeL, Le, List.cons_append, List.nil_append] <;> (try (simp (maxSteps := 2000000) -implicitDefEqProofs only [bL_le, s_alt, s_alt20, s_alt2t, s_alt2f, ↓s_loopi, ↓v_pq, ↓PRE, POST, CORE, Nat.reduceDiv, Nat.reduceMod, Int.reduceLT, Int.reduceLE, Int.reduceToNat, Int.reduceAdd, ↓reduceIte, Nat.reduceEqDiff, Nat.reduceAdd, Nat.reduceMul, Nat.reduceSub, Nat.reduceLeDiff, Nat.reduceLT, reduceCtorEq, if_true, eq_self, forall_const, implies_true])) <;> (try simp only [Sz.Le, Sz.LeL, List.getElem?_cons_zero, List.getElem?_cons_succ]) <;> (try simp))
      · intro x hx _
        have i0 : (0 : Int) ≤ (x : Int) := by omega
        have i1 : (x : Int) < n := by omega
        have w1 : IntKind.i64.wrap ((x : Int) + 1) = (x : Int) + 1 := Sz.w_64 (by omega) (by omega)
        have hs := leF_succ x v
        have hlen : (([] : List Int) ++ leF x v).length ≤ 900004 := by rw [List.length_append, leF_len]; first | omega | (simp only [List.length_nil, Nat.zero_add]; omega)
        have h3 : ([] : List Int) ++ leF (x + 1) v = (([] : List Int) ++ leF x v) ++ [IntKind.u8.wrap (shN x v)] := by rw [hs, List.append_assoc]
        have h4 : shN (x + 1) v = (shN x v).fdiv (2 ^ (min (8 : Int).toNat IntKind.i64.bits)) := rfl
        rw [h3, h4]
        generalize ([] : List Int) ++ leF x v = L at hlen ⊢
        generalize shN x v = y
        have hL2 : ¬ L ++ [IntKind.u8.wrap y] = [] := by simp
        have hb2 : bL (L ++ [IntKind.u8.wrap y]) = bL L ++ [.v (.int .u8 (IntKind.u8.wrap y))] := by simp [bL]
        have hl2 : (L ++ [IntKind.u8.wrap y]).length = L.length + 1 := by simp
        have b1 := bL_len L
        have b2 := bL_one L
        have b3 : List.take L.length (bL L) = bL L := List.take_of_length_le (by rw [b1]; exact Nat.le_refl _)
        have hle : ∀ g, LeL g (bL L ++ [SV.v (.int .u8 (IntKind.u8.wrap y))]) (bL L ++ [SV.v (.int .u8 (IntKind.u8.wrap y))]) := fun g => by rw [← hb2]; exact bL_le g _
        have n0 : @inpL J none 0 = some [] := rfl
        by_cases hL : L = []
        · subst hL
          simp only [rowS, rowM, hL2, if_false, if_true, hb2, hl2]
          simp (maxSteps := 2000000) -implicitDefEqProofs only [i0, i1, w1, n0, s_alt, s_alt20, s_alt2t, s_alt2f, ↓s_loopi, ↓v_pq, ↓PRE, POST, CORE, Nat.reduceDiv, Nat.reduceMod, Int.reduceLT, Int.reduceLE, Int.reduceToNat, Int.reduceAdd, ↓reduceIte, Nat.reduceEqDiff, Nat.reduceAdd, Nat.reduceMul, Nat.reduceSub, Nat.reduceLeDiff, Nat.reduceLT, reduceCtorEq, if_true, eq_self, forall_const, implies_true]
          have hle1 : ∀ g, LeL g [SV.v (.int .u8 (IntKind.u8.wrap y))] [SV.v (.int .u8 (IntKind.u8.wrap y))] := fun g => LeL_plain g rfl
          exact ⟨by unfold maxLen; omega, (by refine ⟨[1], by simp [NdL, NdA, oO_cells, oO_own, iL_nil], ?_, ?_, keep0 hJ⟩ <;> simp only [FitM, FitE, ObLe, LeL, Le, List.cons_append, List.nil_append] <;> (try (simp (maxSteps := 2000000) -implicitDefEqProofs only [bL, List.map_nil, List.nil_append, hle1, s_alt, s_alt20, s_alt2t, s_alt2f, ↓s_loopi, ↓v_pq, ↓PRE, POST, CORE, Nat.reduceDiv, Nat.reduceMod, Int.reduceLT, Int.reduceLE, Int.reduceToNat, Int.reduceAdd, ↓reduceIte, Nat.reduceEqDiff, Nat.reduceAdd, Nat.reduceMul, Nat.reduceSub, Nat.reduceLeDiff, Nat.reduceLT, reduceCtorEq, if_true, eq_self, forall_const, implies_true])) <;> (try simp only [Sz.Le, Sz.LeL, List.getElem?_cons_zero, List.getElem?_cons_succ]) <;> (try simp))⟩
        · simp only [rowS, rowM, hL2, hL, if_false, if_true, hb2, hl2]
          simp (maxSteps := 2000000) -implicitDefEqProofs only [i0, i1, w1, b1, b2, b3, s_alt, s_alt20, s_alt2t, s_alt2f, ↓s_loopi, ↓v_pq, ↓PRE, POST, CORE, Nat.reduceDiv, Nat.reduceMod, Int.reduceLT, Int.reduceLE, Int.reduceToNat, Int.reduceAdd, ↓reduceIte, Nat.reduceEqDiff, Nat.reduceAdd, Nat.reduceMul, Nat.reduceSub, Nat.reduceLeDiff, Nat.reduceLT, reduceCtorEq, if_true, eq_self, forall_const, implies_true]
          exact ⟨⟨by unfold maxLen; omega, by omega⟩, (by refine ⟨[2], by simp [NdL, NdA, oO_cells, oO_own, iL_nil], ?_, ?_, keep0 hJ⟩ <;> simp only [FitM, FitE, ObLe, LeL, Le, List.cons_append, List.nil_append] <;> (try (simp (maxSteps := 2000000) -implicitDefEqProofs only [hle, s_alt, s_alt20, s_alt2t, s_alt2f, ↓s_loopi, ↓v_pq, ↓PRE, POST, CORE, Nat.reduceDiv, Nat.reduceMod, Int.reduceLT, Int.reduceLE, Int.reduceToNat, Int.reduceAdd, ↓reduceIte, Nat.reduceEqDiff, Nat.reduceAdd, Nat.reduceMul, Nat.reduceSub, Nat.reduceLeDiff, Nat.reduceLT, reduceCtorEq, if_true, eq_self, forall_const, implies_true])) <;> (try simp only [Sz.Le, Sz.LeL, List.getElem?_cons_zero, List.getElem?_cons_succ]) <;> (try simp))⟩
      · intro _
        have i1 : ¬ ((n.toNat : Int) < n) := by omega
        by_cases hL : ([] : List Int) ++ leF n.toNat v = []
        · simp only [rowS, rowM, hL, if_true]
          simp (maxSteps := 2000000) -implicitDefEqProofs only [i1, s_alt, s_alt20, s_alt2t, s_alt2f, ↓s_loopi, ↓v_pq, ↓PRE, POST, CORE, Nat.reduceDiv, Nat.reduceMod, Int.reduceLT, Int.reduceLE, Int.reduceToNat, Int.reduceAdd, ↓reduceIte, Nat.reduceEqDiff, Nat.reduceAdd, Nat.reduceMul, Nat.reduceSub, Nat.reduceLeDiff, Nat.reduceLT, reduceCtorEq, if_true, eq_self, forall_const, implies_true]
          exact fin (([] : List Int) ++ leF n.toNat v) _ _ 0 (fun _ => rfl) (fun h => (h hL).elim) hk
        · simp only [rowS, rowM, hL, if_false]
          simp (maxSteps := 2000000) -implicitDefEqProofs only [i1, s_alt, s_alt20, s_alt2t, s_alt2f, ↓s_loopi, ↓v_pq, ↓PRE, POST, CORE, Nat.reduceDiv, Nat.reduceMod, Int.reduceLT, Int.reduceLE, Int.reduceToNat, Int.reduceAdd, ↓reduceIte, Nat.reduceEqDiff, Nat.reduceAdd, Nat.reduceMul, Nat.reduceSub, Nat.reduceLeDiff, Nat.reduceLT, reduceCtorEq, if_true, eq_self, forall_const, implies_true]
          exact fin (([] : List Int) ++ leF n.toNat v) _ _ 0 (fun h => (hL h).elim) (fun _ => ⟨rfl, rfl⟩) hk
  · obtain ⟨p, c, rfl, hin⟩ := rdB_knows hb hk1
    have hr : ∀ m, rdB m (.v (.slice p bs.length c)) = some bs := fun m => rdB_v hin
    simp (maxSteps := 2000000) -implicitDefEqProofs only [↓x46, ↓r46, ↓G134, ↓c90, s_alt, s_alt20, s_alt2t, s_alt2f, ↓s_loopi, ↓v_pq, ↓PRE, POST, CORE, Nat.reduceDiv, Nat.reduceMod, Int.reduceLT, Int.reduceLE, Int.reduceToNat, Int.reduceAdd, ↓reduceIte, Nat.reduceEqDiff, Nat.reduceAdd, Nat.reduceMul, Nat.reduceSub, Nat.reduceLeDiff, Nat.reduceLT, reduceCtorEq, if_true, eq_self, forall_const, implies_true]
    refine ⟨bs, hr _, by omega, ?_⟩
    simp (maxSteps := 2000000) -implicitDefEqProofs only [he, ↓G134, ↓c89, ↓c91, s_alt, s_alt20, s_alt2t, s_alt2f, ↓s_loopi, ↓v_pq, ↓PRE, POST, CORE, Nat.reduceDiv, Nat.reduceMod, Int.reduceLT, Int.reduceLE, Int.reduceToNat, Int.reduceAdd, ↓reduceIte, Nat.reduceEqDiff, Nat.reduceAdd, Nat.reduceMul, Nat.reduceSub, Nat.reduceLeDiff, Nat.reduceLT, reduceCtorEq, if_true, eq_self, forall_const, implies_true]
    split
    · rename_i hf
      have hf : fitsF v n = false := by simpa using hf
      have e : putF bs v n = bs := by unfold putF; rw [hf]; simp
      rw [e] at hk
      exact fin bs _ _ 0 (by simp [he]) (by simp [he]) hk
    · rename_i hf
      have hf : fitsF v n = true := by simpa using hf
      have e : putF bs v n = bs ++ leF n.toNat v := by unfold putF; rw [hf]; simp
      rw [e] at hk
      have hn : n = 1 ∨ n = 2 ∨ n = 4 := by
        unfold fitsF sizedF at hf
        simp only [Bool.and_eq_true, Bool.or_eq_true, beq_iff_eq] at hf
        omega
      have e0 : bs ++ leF 0 v = bs := by simp [leF]
      refine TXi_of (TX_count (g46) n.toNat (fun x => [(1, .v (.int .i64 (shN x v))), (7, rowS 0 (bs ++ leF x v)), (16, .v (.int .i64 n)), (17, .v (.int .i64 (x : Int)))]) (fun x => rowM (bs ++ leF x v)) (fun x => True) trivial ?_ ?_ ?_)
      · simp only [e0, rowS, rowM, he, if_false, shN]
        exact (by refine ⟨[0], by simp [NdL, NdA, oO_cells, oO_own, iL_nil], ?_, ?_, keep0 hJ⟩ <;> simp only [FitM, FitE, ObLe, LeL, Le, List.cons_append, List.nil_append] <;> (try (simp (maxSteps := 2000000) -implicitDefEqProofs only [bL_le, s_alt, s_alt20, s_alt2t, s_alt2f, ↓s_loopi, ↓v_pq, ↓PRE, POST, CORE, Nat.reduceDiv, Nat.reduceMod, Int.reduceLT, Int.reduceLE, Int.reduceToNat, Int.reduceAdd, ↓reduceIte, Nat.reduceEqDiff, Nat.reduceAdd, Nat.reduceMul, Nat.reduceSub, Nat.reduceLeDiff, Nat.reduceLT, reduceCtorEq, if_true, eq_self, forall_const, implies_true])) <;> (try simp only [Sz.Le, Sz.LeL, List.getElem?_cons_zero, List.getElem?_cons_succ]) <;> (try simp))
      · intro x hx _
        have i0 : (0 : Int) ≤ (x : Int) := by omega
        have i1 : (x : Int) < n := by omega
        have w1 : IntKind.i64.wrap ((x : Int) + 1) = (x : Int) + 1 := Sz.w_64 (by omega) (by omega)
        have hs := leF_succ x v
        have hlen : (bs ++ leF x v).length ≤ 900004 := by rw [List.length_append, leF_len]; first | omega | (simp only [List.length_nil, Nat.zero_add]; omega)
        have h3 : bs ++ leF (x + 1) v = (bs ++ leF x v) ++ [IntKind.u8.wrap (shN x v)] := by rw [hs, List.append_assoc]
        have h4 : shN (x + 1) v = (shN x v).fdiv (2 ^ (min (8 : Int).toNat IntKind.i64.bits)) := rfl
        rw [h3, h4]
        generalize bs ++ leF x v = L at hlen ⊢
        generalize shN x v = y
        have hL2 : ¬ L ++ [IntKind.u8.wrap y] = [] := by simp
        have hb2 : bL (L ++ [IntKind.u8.wrap y]) = bL L ++ [.v (.int .u8 (IntKind.u8.wrap y))] := by simp [bL]
        have hl2 : (L ++ [IntKind.u8.wrap y]).length = L.length + 1 := by simp
        have b1 := bL_len L
        have b2 := bL_one L
        have b3 : List.take L.length (bL L) = bL L := List.take_of_length_le (by rw [b1]; exact Nat.le_refl _)
        have hle : ∀ g, LeL g (bL L ++ [SV.v (.int .u8 (IntKind.u8.wrap y))]) (bL L ++ [SV.v (.int .u8 (IntKind.u8.wrap y))]) := fun g => by rw [← hb2]; exact bL_le g _
        have n0 : @inpL J none 0 = some [] := rfl
        by_cases hL : L = []
        · subst hL
          simp only [rowS, rowM, hL2, if_false, if_true, hb2, hl2]
          simp (maxSteps := 2000000) -implicitDefEqProofs only [i0, i1, w1, n0, s_alt, s_alt20, s_alt2t, s_alt2f, ↓s_loopi, ↓v_pq, ↓PRE, POST, CORE, Nat.reduceDiv, Nat.reduceMod, Int.reduceLT, Int.reduceLE, Int.reduceToNat, Int.reduceAdd, ↓reduceIte, Nat.reduceEqDiff, Nat.reduceAdd, Nat.reduceMul, Nat.reduceSub, Nat.reduceLeDiff, Nat.reduceLT, reduceCtorEq, if_true, eq_self, forall_const, implies_true]
          have hle1 : ∀ g, LeL g [SV.v (.int .u8 (IntKind.u8.wrap y))] [SV.v (.int .u8 (IntKind.u8.wrap y))] := fun g => LeL_plain g rfl
          exact ⟨by unfold maxLen; omega, (by refine ⟨[1], by simp [NdL, NdA, oO_cells, oO_own, iL_nil], ?_, ?_, keep0 hJ⟩ <;> simp only [FitM, FitE, ObLe, LeL, Le, List.cons_append, List.nil_append] <;> (try (simp (maxSteps := 2000000) -implicitDefEqProofs only [bL, List.map_nil, List.nil_append, hle1, s_alt, s_alt20, s_alt2t, s_alt2f, ↓s_loopi, ↓v_pq, ↓PRE, POST, CORE, Nat.reduceDiv, Nat.reduceMod, Int.reduceLT, Int.reduceLE, Int.reduceToNat, Int.reduceAdd, ↓reduceIte, Nat.reduceEqDiff, Nat.reduceAdd, Nat.reduceMul, Nat.reduceSub, Nat.reduceLeDiff, Nat.reduceLT, reduceCtorEq, if_true, eq_self, forall_const, implies_true])) <;> (try simp only [Sz.Le, Sz.LeL, List.getElem?_cons_zero, List.getElem?_cons_succ]) <;> (try simp))⟩
        · simp only [rowS, rowM, hL2, hL, if_false, if_true, hb2, hl2]
          simp (maxSteps := 2000000) -implicitDefEqProofs only [i0, i1, w1, b1, b2, b3, s_alt, s_alt20, s_alt2t, s_alt2f, ↓s_loopi, ↓v_pq, ↓PRE, POST, CORE, Nat.reduceDiv, Nat.reduceMod, Int.reduceLT, Int.reduceLE, Int.reduceToNat, Int.reduceAdd, ↓reduceIte, Nat.reduceEqDiff, Nat.reduceAdd, Nat.reduceMul, Nat.reduceSub, Nat.reduceLeDiff, Nat.reduceLT, reduceCtorEq, if_true, eq_self, forall_const, implies_true]
          exact ⟨⟨by unfold maxLen; omega, by omega⟩, (by refine ⟨[2], by simp [NdL, NdA, oO_cells, oO_own, iL_nil], ?_, ?_, keep0 hJ⟩ <;> simp only [FitM, FitE, ObLe, LeL, Le, List.cons_append, List.nil_append] <;> (try (simp (maxSteps := 2000000) -implicitDefEqProofs only [hle, s_alt, s_alt20, s_alt2t, s_alt2f, ↓s_loopi, ↓v_pq, ↓PRE, POST, CORE, Nat.reduceDiv, Nat.reduceMod, Int.reduceLT, Int.reduceLE, Int.reduceToNat, Int.reduceAdd, ↓reduceIte, Nat.reduceEqDiff, Nat.reduceAdd, Nat.reduceMul, Nat.reduceSub, Nat.reduceLeDiff, Nat.reduceLT, reduceCtorEq, if_true, eq_self, forall_const, implies_true])) <;> (try simp only [Sz.Le, Sz.LeL, List.getElem?_cons_zero, List.getElem?_cons_succ]) <;> (try simp))⟩
      · intro _
        have i1 : ¬ ((n.toNat : Int) < n) := by omega
        by_cases hL : bs ++ leF n.toNat v = []
        · simp only [rowS, rowM, hL, if_true]
          simp (maxSteps := 2000000) -implicitDefEqProofs only [i1, s_alt, s_alt20, s_alt2t, s_alt2f, ↓s_loopi, ↓v_pq, ↓PRE, POST, CORE, Nat.reduceDiv, Nat.reduceMod, Int.reduceLT, Int.reduceLE, Int.reduceToNat, Int.reduceAdd, ↓reduceIte, Nat.reduceEqDiff, Nat.reduceAdd, Nat.reduceMul, Nat.reduceSub, Nat.reduceLeDiff, Nat.reduceLT, reduceCtorEq, if_true, eq_self, forall_const, implies_true]
          exact fin (bs ++ leF n.toNat v) _ _ 0 (fun _ => rfl) (fun h => (h hL).elim) hk
        · simp only [rowS, rowM, hL, if_false]
          simp (maxSteps := 2000000) -implicitDefEqProofs only [i1, s_alt, s_alt20, s_alt2t, s_alt2f, ↓s_loopi, ↓v_pq, ↓PRE, POST, CORE, Nat.reduceDiv, Nat.reduceMod, Int.reduceLT, Int.reduceLE, Int.reduceToNat, Int.reduceAdd, ↓reduceIte, Nat.reduceEqDiff, Nat.reduceAdd, Nat.reduceMul, Nat.reduceSub, Nat.reduceLeDiff, Nat.reduceLT, reduceCtorEq, if_true, eq_self, forall_const, implies_true]
          exact fin (bs ++ leF n.toNat v) _ _ 0 (fun h => (hL h).elim) (fun _ => ⟨rfl, rfl⟩) hk
end Go.Proofs.Ytibefgdjijmncaa
end
section
namespace Go.Proofs.Ytibefgdjijmncaa.Sz
open Go.RowKit
def KL (K : SV → Value → Prop) : List SV → List Value → Prop
  | [], us => us = []
  | s :: ss, us => ∃ u t, us = u :: t ∧ K s u ∧ KL K ss t
structure Kn (I J : Inp) (m : Mem) (K : SV → Value → Prop) : Prop where
  v : ∀ (x u : Value), K (.v x) u → u = x
  agg : ∀ (cs : List SV) (u : Value), K (.agg cs) u → ∃ us : List Value, u = .agg us.toArray ∧ KL K cs us
  sl : ∀ (z n : Nat) (s : SV) (xs : List SV) (u : Value), @slOf I m z s = some (n, xs) → K s u → ∃ p c us, u = .slice p n c ∧ KL K xs us ∧ @inpL J p (n * z) = some us
  inp : ∀ (p : Option Addr) (k : Nat) (vs : List Value), @inpL I p k = some vs → @inpL J p k = some vs
theorem KL_of {r : List Loc} : ∀ {xs : List SV} {us : List Value}, SV.IsL r xs us → KL (fun s u => s.Is r u) xs us
  | [], us, h => by simpa only [SV.IsL, KL] using h
  | s :: ss, us, h => by
    simp only [SV.IsL] at h
    obtain ⟨u, t, rfl, h1, h2⟩ := h
    exact ⟨u, t, rfl, h1, KL_of h2⟩
theorem KL_v {K : SV → Value → Prop} (hK : ∀ (x u : Value), K (.v x) u → u = x) : ∀ {ys us : List Value}, KL K (ys.map .v) us → us = ys
  | [], us, h => by simpa only [List.map_nil, KL] using h
  | y :: ys, us, h => by
    obtain ⟨u, t, rfl, h1, h2⟩ := h
    rw [hK _ _ h1, KL_v hK h2]
theorem KL_append {K : SV → Value → Prop} : ∀ {xs ys : List SV} {us : List Value}, KL K (xs ++ ys) us → ∃ a b, us = a ++ b ∧ KL K xs a ∧ KL K ys b
  | [], ys, us, h => ⟨[], us, rfl, rfl, h⟩
  | x :: xs, ys, us, h => by
    obtain ⟨u, t, rfl, h1, h2⟩ := h
    obtain ⟨a, b, rfl, h3, h4⟩ := KL_append h2
    exact ⟨u :: a, b, rfl, ⟨u, a, rfl, h1, h3⟩, h4⟩
theorem kn_of {I : Inp} {base : Nat → Prop} {w0 W : World} {r : List Loc} {m : Mem} (hst : St base w0 r m W) : Kn I (inpOf W) m (fun s u => s.Is r u) := by
  refine ⟨fun x u h => by simpa only [SV.Is] using h, fun cs u h => ?_, fun z n s xs u h hs => ?_, fun p k vs h => inp_from hst h⟩
  · simp only [SV.Is] at h
    obtain ⟨us, h1, h2⟩ := h
    exact ⟨us, h1, KL_of h2⟩
  · obtain ⟨p, c, us, rfl, hus, hlen, hcell⟩ := sl_cells hst h hs
    have hxl := slOf_len h
    refine ⟨p, c, us, rfl, KL_of hus, inpL_of (I := inpOf W) (by omega) fun hne => ?_⟩
    rcases hcell with ⟨a, rfl, hc⟩ | ⟨_, h0⟩
    · have hc := hc W (Same.refl _ _)
      refine ⟨a, rfl, ?_, hc⟩
      obtain ⟨x, hx⟩ : ∃ x, us[0]? = some x := by
        cases us with
        | nil => exact (hne rfl).elim
        | cons x _ => exact ⟨x, rfl⟩
      have := hc 0 x hx
      rw [add_zero_addr] at this
      exact World.cell?_spot this
    · exact (hne h0).elim
section
variable {P : Program} {f : FuncId} {eff : List FuncId} {N : Nat} {x : XC} {rs : List XR}
theorem Contract.readG [I : Inp] (hF : FnX P f eff N x rs) {G : Inp → List CEntry} (hG : ∀ J, @GOk J P (G J)) (tr : Trans)
    (body : ∀ args m k, tr args m k → args.length ≤ N ∧ ∀ (J : Inp), J.keep = 0 → ∀ K, Kn I J m K → ∀ (us : List Value), KL K args us → @evX J P N eff (G J) x (slots (argSlots 0 (us.map SV.of))) [] (fun ex e m' => EndsX ex ∧ evR rs e m' fun s => s.plain = true ∧ k s m)) : Contract P f true tr := by
  refine ⟨hF.enter, fun args m k base w0 W r vs ht hst ha => ?_⟩
  obtain ⟨hlen, hev⟩ := body args m k ht
  have hvl := IsL_len ha
  refine (@FnX.calls P f eff N x rs (G (inpOf W)) (inpOf W) hF (hG (inpOf W)) _ _ _ _ _ _ _ (St.inpOf W) (isL_of vs) (by simp; omega) (fun s _ => s.plain = true ∧ k s m) (hev (inpOf W) rfl _ (kn_of hst) vs (KL_of ha))).mono ?_
  rintro e W1 ⟨s, m', r', u, ⟨hp, hk⟩, rfl, hst1, hs, _⟩
  have hb : Below W.heap.size W W1 := (@St.low (inpOf W) _ _ _ _ _ hst1).below
  exact ⟨s, m, [], u, hk, rfl, by simpa using hst.below hb, plain_is hp hs, fun _ => Same.below hst hb⟩
theorem Contract.readFG [I : Inp] (hF : FnX P f eff N x rs) {G : Inp → List CEntry} (hG : ∀ J, @GOk J P (G J)) (tr : Trans)
    (body : ∀ args m k, tr args m k → args.length ≤ N ∧ ∀ (J : Inp), J.keep = 0 → ∀ K, Kn I J m K → ∀ (us : List Value), KL K args us → @evX J P N eff (G J) x (slots (argSlots 0 (us.map SV.of))) [] (fun ex e m' => EndsX ex ∧ evR rs e m' fun s => ∃ (g2 : List Nat) (s2 : SV) (m2 : Mem), g2.Nodup ∧ FitM g2 m' g2 m2 ∧ (∀ o ∈ m2, o.own = true) ∧ Le g2 s2 s ∧ k (s2.up m.length) (m ++ m2.map (SObj.up m.length)))) : Contract P f true tr := by
  refine ⟨hF.enter, fun args m k base w0 W r vs ht hst ha => ?_⟩
  obtain ⟨hlen, hev⟩ := body args m k ht
  have hvl := IsL_len ha
  refine (@FnX.calls P f eff N x rs (G (inpOf W)) (inpOf W) hF (hG (inpOf W)) _ _ _ _ _ _ _ (St.inpOf W) (isL_of vs) (by simp; omega) (fun s m' => ∃ (g2 : List Nat) (s2 : SV) (m2 : Mem), g2.Nodup ∧ FitM g2 m' g2 m2 ∧ (∀ o ∈ m2, o.own = true) ∧ Le g2 s2 s ∧ k (s2.up m.length) (m ++ m2.map (SObj.up m.length))) (hev (inpOf W) rfl _ (kn_of hst) vs (KL_of ha))).mono ?_
  rintro e W1 ⟨s, m', r', u, ⟨g2, s2, m2, hn2, hm2, hown, hle2, hk⟩, rfl, hst1, hs, _⟩
  have hb : Below W.heap.size W W1 := (@St.low (inpOf W) _ _ _ _ _ hst1).below
  obtain ⟨r2, hst2, hr2, _⟩ := @fit_sound (inpOf W) 0 _ (fun _ => .any) _ _ [] _ _ _ _ #[] (NdL_of hn2) hm2 hst1
  have hj := St.join2 I (inpOf W) hst hst2 hown
  rw [← hst.len] at hk
  exact ⟨_, _, r2, u, hk, rfl, hj, up_is (Le.is hr2 hle2 hs), fun _ => Same.below hst hb⟩
def plF (s : SV) (u : Value) : SV := match s with
  | .fn f [] => .fn f []
  | _ => SV.of u
theorem plF_is {r : List Loc} {s : SV} {u : Value} (h : s.Is r u) : (plF s u).Is [] u := by
  unfold plF
  split
  · simpa only [SV.Is, SV.IsL] using h
  · exact SV.of_is [] u
theorem plF_isL {r : List Loc} : ∀ {ss : List SV} {us : List Value}, SV.IsL r ss us → SV.IsL [] (List.zipWith plF ss us) us
  | [], us, h => by simp only [SV.IsL] at h; subst h; simp [SV.IsL]
  | s :: ss, us, h => by
    simp only [SV.IsL] at h
    obtain ⟨u, t, rfl, h1, h2⟩ := h
    simp only [List.zipWith_cons_cons, SV.IsL]
    exact ⟨u, t, rfl, plF_is h1, plF_isL h2⟩
theorem Contract.readGf [I : Inp] (hF : FnX P f eff N x rs) {G : Inp → List CEntry} (hG : ∀ J, @GOk J P (G J)) (tr : Trans)
    (body : ∀ args m k, tr args m k → args.length ≤ N ∧ ∀ (J : Inp), J.keep = 0 → ∀ K, Kn I J m K → ∀ (us : List Value), KL K args us → @evX J P N eff (G J) x (slots (argSlots 0 (List.zipWith plF args us))) [] (fun ex e m' => EndsX ex ∧ evR rs e m' fun s => s.plain = true ∧ k s m)) : Contract P f true tr := by
  refine ⟨hF.enter, fun args m k base w0 W r vs ht hst ha => ?_⟩
  obtain ⟨hlen, hev⟩ := body args m k ht
  have hvl := IsL_len ha
  refine (@FnX.calls P f eff N x rs (G (inpOf W)) (inpOf W) hF (hG (inpOf W)) _ _ _ _ _ _ _ (St.inpOf W) (plF_isL ha) (by simp; omega) (fun s _ => s.plain = true ∧ k s m) (hev (inpOf W) rfl _ (kn_of hst) vs (KL_of ha))).mono ?_
  rintro e W1 ⟨s, m', r', u, ⟨hp, hk⟩, rfl, hst1, hs, _⟩
  have hb : Below W.heap.size W W1 := (@St.low (inpOf W) _ _ _ _ _ hst1).below
  exact ⟨s, m, [], u, hk, rfl, by simpa using hst.below hb, plain_is hp hs, fun _ => Same.below hst hb⟩
end
end Go.Proofs.Ytibefgdjijmncaa.Sz
end
section
namespace Go.Proofs.Ytibefgdjijmncaa
open Go.RowKit Sz
structure Pg where
  torn : Bool
  beside : ByteArray
  data : ByteArray
def Pg.cs (x : Pg) : List Value := [.bool x.torn, .string x.beside, .string x.data]
theorem Pg.len (x : Pg) : x.cs.length = 3 := rfl
structure Bk where
  bad : Bool
  er : Int
  pages : List Pg
structure Bi where
  b : Bk
  a : Option Addr
  c : Nat
def Bi.cs (x : Bi) : List Value := [.bool x.b.bad, .int .i64 x.b.er, .slice x.a x.b.pages.length x.c]
theorem Bi.len (x : Bi) : x.cs.length = 3 := rfl
def Bi.In [Inp] (x : Bi) : Prop := inpL x.a (x.b.pages.length * 3) = some (rowV Pg.cs x.b.pages)
structure Ge where
  ch : Int
  di : Int
  bl : Int
  pa : Int
  deriving DecidableEq
def Ge.sv (g : Ge) : List SV := [.v (.int .i64 g.ch), .v (.int .i64 g.di), .v (.int .i64 g.bl), .v (.int .i64 g.pa)]
def blkS [Inp] (m : Mem) : List SV → List Bk → Prop
  | [], [] => True
  | x :: y :: z :: t, b :: bs => x = .v (.bool b.bad) ∧ y = .v (.int .i64 b.er) ∧ slOf m 3 z = some (b.pages.length, (rowV Pg.cs b.pages).map .v) ∧ blkS m t bs
  | _, _ => False
def picS [Inp] (m : Mem) (s : SV) (g : Ge) (bs : List Bk) : Prop := ∃ r cells, s = .agg (g.sv ++ [r]) ∧ slOf m 3 r = some (bs.length, cells) ∧ blkS m cells bs
theorem blk_kn {I J : Inp} {m : Mem} {K : SV → Value → Prop} (hK : Kn I J m K) : ∀ {cells : List SV} {bs : List Bk} {us : List Value}, @blkS I m cells bs → KL K cells us → ∃ xs : List Bi, xs.map Bi.b = bs ∧ us = rowV Bi.cs xs ∧ ∀ x ∈ xs, @Bi.In J x
  | [], [], us, _, h => ⟨[], rfl, by simpa [KL, rowV] using h, by simp⟩
  | x :: y :: z :: t, b :: bs, us, h, hk => by
    obtain ⟨h1, h2, h3, h4⟩ := h
    obtain ⟨u, us, rfl, k1, v, us2, rfl, k2, w, us3, rfl, k3, k4⟩ := hk
    subst h1; subst h2
    obtain rfl := hK.v _ _ k1
    obtain rfl := hK.v _ _ k2
    obtain ⟨p, c, ps, rfl, kp, hin⟩ := hK.sl 3 _ z _ w h3 k3
    obtain rfl := KL_v hK.v kp
    obtain ⟨xs, e1, e2, e3⟩ := blk_kn hK h4 k4
    refine ⟨⟨b, p, c⟩ :: xs, by simp [e1], ?_, ?_⟩
    · rw [e2]; rfl
    · intro x hx
      rcases List.mem_cons.1 hx with rfl | hx
      · exact hin
      · exact e3 x hx
  | [], _ :: _, us, h, _ => h.elim
  | _ :: _, [], us, h, _ => by simp [blkS] at h
  | [_], _ :: _, us, h, _ => by simp [blkS] at h
  | [_, _], _ :: _, us, h, _ => by simp [blkS] at h
theorem pic_kn {I J : Inp} {m : Mem} {K : SV → Value → Prop} (hK : Kn I J m K) {s : SV} {g : Ge} {bs : List Bk} {u : Value} (h : @picS I m s g bs) (hk : K s u) :
    ∃ (p : Option Addr) (c : Nat) (xs : List Bi), SV.of u = .agg (g.sv ++ [.v (.slice p xs.length c)]) ∧ xs.map Bi.b = bs ∧ @inpL J p (xs.length * 3) = some (rowV Bi.cs xs) ∧ ∀ x ∈ xs, @Bi.In J x := by
  obtain ⟨r, cells, rfl, h1, h2⟩ := h
  obtain ⟨us, rfl, hk2⟩ := hK.agg _ _ hk
  obtain ⟨a, b, rfl, ka, kb⟩ := KL_append hk2
  obtain ⟨w, t, rfl, k1, rfl⟩ := kb
  obtain ⟨p, c, vs, rfl, kv, hin⟩ := hK.sl 3 _ r _ w h1 k1
  obtain ⟨xs, e1, e2, e3⟩ := blk_kn hK h2 kv
  have hl : bs.length = xs.length := by rw [← e1, List.length_map]
  have ea : a = [.int .i64 g.ch, .int .i64 g.di, .int .i64 g.bl, .int .i64 g.pa] := KL_v hK.v (ys := [.int .i64 g.ch, .int .i64 g.di, .int .i64 g.bl, .int .i64 g.pa]) ka
  rw [hl, e2] at hin
  refine ⟨p, c, xs, ?_, e1, hin, e3⟩
  rw [of_agg, ea, hl]
  rfl
theorem blk_plain [Inp] (m : Mem) : ∀ {xs : List Bi}, (∀ x ∈ xs, Bi.In x) → blkS m ((rowV Bi.cs xs).map .v) (xs.map Bi.b)
  | [], _ => trivial
  | x :: xs, h => by
    refine ⟨rfl, rfl, ?_, blk_plain m fun y hy => h y (by simp [hy])⟩
    have := h x (by simp)
    unfold Bi.In at this
    simp only [slOf, this, Option.map_some]
theorem pic_plain [Inp] (m : Mem) {g : Ge} {p : Option Addr} {c : Nat} {xs : List Bi} (hin : inpL p (xs.length * 3) = some (rowV Bi.cs xs)) (h : ∀ x ∈ xs, Bi.In x) : picS m (.agg (g.sv ++ [.v (.slice p xs.length c)])) g (xs.map Bi.b) :=
  ⟨_, _, rfl, by simp only [slOf, hin, Option.map_some, List.length_map], blk_plain m h⟩
def eqP (x y : Pg) : Bool := (x.torn == y.torn) && ((x.beside.toList == y.beside.toList) && ((x.data.toList == y.data.toList) && true))
def eqPs (ps qs : List Pg) : Bool := (ps.length == qs.length) && (ps.zip qs).all fun z => eqP z.1 z.2
def eqB (a b : Bk) : Bool := a.bad == b.bad && (a.er == b.er && eqPs a.pages b.pages)
def eqBs (as1 bs : List Bk) : Bool := (as1.length == bs.length) && (as1.zip bs).all fun z => eqB z.1 z.2
def difF (as1 bs : List Bk) (i : Nat) : Bool := match as1[i]?, bs[i]? with
  | some a, some b => !eqB a b
  | _, _ => true
def difN (as1 bs : List Bk) (n : Nat) : List Int := ((List.range n).filter (difF as1 bs)).map Int.ofNat
def difL (as1 bs : List Bk) : List Int := difN as1 bs (max as1.length bs.length)
end Go.Proofs.Ytibefgdjijmncaa
end
section
namespace Go.Proofs.Ytibefgdjijmncaa
open Go.RowKit Sz
def leV : List Int → Int
  | [] => 0
  | c :: cs => c + 256 * leV cs
def leN : Nat → Int → List Int
  | 0, _ => []
  | n + 1, v => v % 256 :: leN n (v / 256)
def Byt (b : List Int) : Prop := ∀ x ∈ b, 0 ≤ x ∧ x ≤ 255
theorem Byt.tail {x : Int} {b : List Int} (h : Byt (x :: b)) : Byt b := fun y hy => h y (by simp [hy])
theorem Byt.take {b : List Int} (h : Byt b) (n : Nat) : Byt (b.take n) := fun x hx => h x (List.mem_of_mem_take hx)
theorem Byt.drop {b : List Int} (h : Byt b) (n : Nat) : Byt (b.drop n) := fun x hx => h x (List.mem_of_mem_drop hx)
theorem Byt.app {a b : List Int} (h : Byt a) (h2 : Byt b) : Byt (a ++ b) := fun x hx => by
  rcases List.mem_append.1 hx with hx | hx
  · exact h x hx
  · exact h2 x hx
theorem leN_len : ∀ (n : Nat) (v : Int), (leN n v).length = n
  | 0, _ => rfl
  | n + 1, v => by simp [leN, leN_len n]
theorem leN_byt : ∀ (n : Nat) (v : Int), Byt (leN n v)
  | 0, _ => fun x hx => by simp [leN] at hx
  | n + 1, v => fun x hx => by
    rcases List.mem_cons.1 hx with rfl | hx
    · omega
    · exact leN_byt n _ x hx
theorem leN_leV : ∀ {bs : List Int}, Byt bs → leN bs.length (leV bs) = bs
  | [], _ => rfl
  | c :: cs, h => by
    have hc := h c (by simp)
    have ih := leN_leV h.tail
    simp only [List.length_cons, leN, leV]
    rw [show (c + 256 * leV cs) % 256 = c by omega, show (c + 256 * leV cs) / 256 = leV cs by omega, ih]
theorem leV_bound : ∀ {bs : List Int}, Byt bs → 0 ≤ leV bs ∧ leV bs < 256 ^ bs.length
  | [], _ => by simp [leV]
  | c :: cs, h => by
    have hc := h c (by simp)
    have ih := leV_bound h.tail
    simp only [List.length_cons, leV, Int.pow_succ]
    omega
abbrev RS := List Int × Int
def failR (e : Int) (s : RS) : RS := if s.2 = 0 then (s.1, e) else s
def takeR (n : Nat) (s : RS) : List Int × RS := if s.2 = 0 then (if s.1.length < n then ([], (s.1, 2)) else (s.1.take n, (s.1.drop n, 0))) else ([], s)
def numR (n : Nat) (s : RS) : Int × RS := (leV (takeR n s).1, (takeR n s).2)
def flagR (s : RS) : Bool × RS := ((numR 1 s).1 == 1, if 1 < (numR 1 s).1 then failR 2 (numR 1 s).2 else (numR 1 s).2)
def textR (most : Int) (s : RS) : List Int × RS :=
  if (numR 2 s).2.2 = 0 then (if most < (numR 2 s).1 then ([], ((numR 2 s).2.1, 3)) else takeR (numR 2 s).1.toNat (numR 2 s).2) else ([], (numR 2 s).2)
def doneR (s : RS) : Int := if s.1 = [] then s.2 else (failR 2 s).2
theorem takeR_ok {n : Nat} {s : RS} (h : (takeR n s).2.2 = 0) : s.2 = 0 ∧ n ≤ s.1.length ∧ takeR n s = (s.1.take n, (s.1.drop n, 0)) := by
  unfold takeR at h ⊢
  split
  · rename_i h0
    rw [if_pos h0] at h
    split
    · rename_i h1; rw [if_pos h1] at h; simp at h
    · rename_i h1; exact ⟨h0, by omega, rfl⟩
  · rename_i h0
    rw [if_neg h0] at h
    exact (h0 h).elim
theorem numR_ok {n : Nat} {s : RS} (hb : Byt s.1) (h : (numR n s).2.2 = 0) : s.2 = 0 ∧ s.1 = leN n (numR n s).1 ++ (numR n s).2.1 ∧ Byt (numR n s).2.1 ∧ 0 ≤ (numR n s).1 ∧ (numR n s).1 < 256 ^ n := by
  unfold numR at h ⊢
  obtain ⟨h0, h1, e⟩ := takeR_ok h
  have ht : (s.1.take n).length = n := by simp; omega
  have hb1 := hb.take n
  have e2 := leN_leV hb1
  have e3 := leV_bound hb1
  rw [ht] at e2 e3
  simp only [e, e2]
  exact ⟨h0, (List.take_append_drop n s.1).symm, hb.drop n, e3⟩
theorem flagR_ok {s : RS} (hb : Byt s.1) (h : (flagR s).2.2 = 0) : s.2 = 0 ∧ s.1 = (if (flagR s).1 then (1 : Int) else 0) :: (flagR s).2.1 ∧ Byt (flagR s).2.1 := by
  unfold flagR at h ⊢
  simp only at h ⊢
  have hn : ¬ 1 < (numR 1 s).1 := by
    intro hlt
    rw [if_pos hlt] at h
    unfold failR at h
    split at h
    · simp at h
    · rename_i hne; exact hne h
  rw [if_neg hn] at h ⊢
  obtain ⟨h0, e, hb2, hv0, hv1⟩ := numR_ok hb h
  refine ⟨h0, ?_, hb2⟩
  have e1 : leN 1 (numR 1 s).1 = [if ((numR 1 s).1 == 1) = true then (1 : Int) else 0] := by
    simp only [leN]
    by_cases h1 : (numR 1 s).1 = 1
    · rw [h1]; rfl
    · have : (numR 1 s).1 = 0 := by omega
      rw [this]; rfl
  rw [e1] at e
  exact e
theorem textR_ok {most : Int} {s : RS} (hb : Byt s.1) (h : (textR most s).2.2 = 0) : s.2 = 0 ∧ s.1 = leN 2 (textR most s).1.length ++ ((textR most s).1 ++ (textR most s).2.1) ∧ Byt (textR most s).1 ∧ Byt (textR most s).2.1 ∧ ((textR most s).1.length : Int) ≤ most := by
  unfold textR at h ⊢
  split
  · rename_i h0
    rw [if_pos h0] at h
    split
    · rename_i h1
      rw [if_pos h1] at h
      simp at h
    · rename_i h1
      rw [if_neg h1] at h
      obtain ⟨q0, e, hb2, hv0, hv1⟩ := numR_ok hb h0
      obtain ⟨t0, t1, te⟩ := takeR_ok h
      rw [te]
      simp only
      have hl : (((numR 2 s).2.1.take (numR 2 s).1.toNat).length : Int) = (numR 2 s).1 := by
        rw [List.length_take]; omega
      rw [hl, List.take_append_drop]
      exact ⟨q0, e, hb2.take _, hb2.drop _, by omega⟩
  · rename_i h0
    rw [if_neg h0] at h
    exact (h0 h).elim
theorem doneR_ok {s : RS} (h : doneR s = 0) : s.2 = 0 ∧ s.1 = [] := by
  unfold doneR at h
  split at h
  · rename_i h0; exact ⟨h, h0⟩
  · unfold failR at h
    split at h
    · simp at h
    · rename_i hne; exact (hne h).elim
def strB (l : List Int) : ByteArray := strOf (l.map fun x => UInt8.ofNat x.toNat)
def strI (s : ByteArray) : List Int := s.data.toList.map fun x => (x.toNat : Int)
theorem strI_len (s : ByteArray) : (strI s).length = s.size := by simp [strI]
theorem strI_byt (s : ByteArray) : Byt (strI s) := fun x hx => by
  obtain ⟨y, _, rfl⟩ := List.mem_map.1 hx
  have := y.toNat_lt
  omega
theorem strI_strB {l : List Int} (h : Byt l) : strI (strB l) = l := by
  unfold strB strI strOf
  simp only [List.map_map]
  conv => rhs; rw [← List.map_id l]
  apply List.map_congr_left
  intro x hx
  have := h x hx
  simp only [Function.comp_def, id]
  have e : (UInt8.ofNat x.toNat).toNat = x.toNat := by
    rw [UInt8.toNat_ofNat']
    omega
  rw [e]
  omega
theorem strB_size {l : List Int} : (strB l).size = l.length := by simp [strB, strOf, ByteArray.size]
section
variable (sm : List Int → Int)
def hdF (k : Int) (body : List Int) : List Int := leN 1 k ++ (leN 2 body.length ++ body)
def frF (k : Int) (body : List Int) : List Int := hdF k body ++ leN 4 (sm (hdF k body))
inductive Opd where
  | err (e : Int)
  | ok (k : Int) (body : List Int) (size : Nat)
def bodyN (b : List Int) : Nat := (leV ((b.drop 1).take 2)).toNat
def openF (b : List Int) : Opd :=
  if b.length < bodyN b + 7 then .err 2
  else if leV ((b.drop (3 + bodyN b)).take 4) = sm (b.take (3 + bodyN b)) then .ok (leV (b.take 1)) ((b.drop 3).take (bodyN b)) (bodyN b + 7)
  else .err 14
theorem frF_len (k : Int) (body : List Int) : (frF sm k body).length = body.length + 7 := by
  unfold frF hdF
  simp [leN_len]
  omega
variable (hsm : ∀ b, 0 ≤ sm b ∧ sm b < 4294967296)
include hsm
omit hsm in
theorem openF_ok {b : List Int} {k : Int} {body : List Int} {size : Nat} (hb : Byt b) (h : openF sm b = .ok k body size) : b = frF sm k body ++ b.drop size ∧ size = body.length + 7 ∧ body.length ≤ 65535 ∧ 0 ≤ k ∧ k ≤ 255 ∧ Byt body ∧ size ≤ b.length := by
  unfold openF at h
  split at h
  · cases h
  rename_i hlen
  split at h
  · rename_i hs
    injection h with h1 h2 h3
    have hbn := leV_bound ((hb.drop 1).take 2)
    have hb1 := leV_bound (hb.take 1)
    have l2 : ((b.drop 1).take 2).length = 2 := by simp; omega
    have l1 : (b.take 1).length = 1 := by simp; omega
    have l4 : ((b.drop (3 + bodyN b)).take 4).length = 4 := by simp; omega
    rw [l2] at hbn
    rw [l1] at hb1
    have hn : (bodyN b : Int) = leV ((b.drop 1).take 2) := by unfold bodyN; omega
    have lb : body.length = bodyN b := by rw [← h2]; simp; omega
    have g1 : leN 1 k = b.take 1 := by
      have := leN_leV (hb.take 1)
      rw [l1] at this
      rw [← h1]
      exact this
    have g2 : leN 2 body.length = (b.drop 1).take 2 := by
      rw [lb, hn]
      have := leN_leV ((hb.drop 1).take 2)
      rwa [l2] at this
    have g3 : hdF k body = b.take (3 + bodyN b) := by
      unfold hdF
      rw [g1, g2, ← h2]
      have a1 : b.take (3 + bodyN b) = b.take 1 ++ (b.drop 1).take (2 + bodyN b) := by
        rw [show 3 + bodyN b = 1 + (2 + bodyN b) by omega, List.take_add]
      have a2 : (b.drop 1).take (2 + bodyN b) = (b.drop 1).take 2 ++ (b.drop 3).take (bodyN b) := by
        rw [List.take_add, List.drop_drop]
      rw [a1, a2]
    have g4 : leN 4 (sm (hdF k body)) = (b.drop (3 + bodyN b)).take 4 := by
      rw [g3, ← hs]
      have := leN_leV ((hb.drop (3 + bodyN b)).take 4)
      rwa [l4] at this
    have g5 : frF sm k body = b.take size := by
      unfold frF
      rw [g4, g3, show size = 3 + bodyN b + 4 by omega]
      exact List.take_add.symm
    refine ⟨by rw [g5, List.take_append_drop], by omega, by omega, by omega, by omega, ?_, by omega⟩
    rw [← h2]
    exact (hb.drop 3).take _
  · cases h
omit hsm in
theorem openF_err {b : List Int} {e : Int} (h : openF sm b = .err e) : e = 2 ∨ e = 14 := by
  unfold openF at h
  split at h
  · injection h with h; exact .inl h.symm
  · split at h
    · cases h
    · injection h with h; exact .inr h.symm
end
def pgB (x : Pg) : List Int := if x.torn = true then [1] else 0 :: (leN 2 x.beside.size ++ (strI x.beside ++ (leN 2 x.data.size ++ (strI x.data ++ []))))
def mayPg (x : Pg) : Bool := if x.torn = true then x.beside.size == 0 && x.data.size == 0 else decide (x.beside.size ≤ 32) && decide (x.data.size ≤ 160)
def noPg : Pg := ⟨false, strB [], strB []⟩
def decPg (body : List Int) : Pg × Int :=
  if (flagR (body, 0)).1 = true then (⟨true, strB [], strB []⟩, doneR (flagR (body, 0)).2)
  else (⟨false, strB (textR 32 (flagR (body, 0)).2).1, strB (textR 160 (textR 32 (flagR (body, 0)).2).2).1⟩, doneR (textR 160 (textR 32 (flagR (body, 0)).2).2).2)
theorem decPg_ok {body : List Int} (hb : Byt body) (h : (decPg body).2 = 0) : body = pgB (decPg body).1 ∧ mayPg (decPg body).1 = true := by
  unfold decPg at h ⊢
  split
  · rename_i ht
    rw [if_pos ht] at h
    obtain ⟨h1, h2⟩ := doneR_ok h
    obtain ⟨_, e, _⟩ := flagR_ok (s := (body, 0)) hb h1
    rw [ht, if_pos rfl, h2] at e
    exact ⟨e, rfl⟩
  · rename_i ht
    rw [if_neg ht] at h
    obtain ⟨h1, h2⟩ := doneR_ok h
    have hf : Byt (flagR (body, 0)).2.1 ∧ (flagR (body, 0)).2.2 = 0 → True := fun _ => trivial
    have k2 : ∀ (most : Int) (s : RS), (textR most s).2.2 = 0 → s.2 = 0 := fun most s h => by
      unfold textR at h
      split at h
      · rename_i h0
        unfold numR at h0
        exact (takeR_ok h0).1
      · rename_i h0; exact (h0 h).elim
    have e2 := k2 _ _ h1
    have e1 := k2 _ _ e2
    obtain ⟨_, a1, b1⟩ := flagR_ok (s := (body, 0)) hb e1
    obtain ⟨_, a2, b2, b3, b4⟩ := textR_ok b1 e2
    obtain ⟨_, a3, b5, b6, b7⟩ := textR_ok b3 h1
    rw [h2] at a3
    rw [if_neg ht] at a1
    constructor
    · unfold pgB
      simp only [Bool.false_eq_true, if_false, strB_size, strI_strB b2, strI_strB b5]
      exact a1.trans (by rw [a2, a3])
    · unfold mayPg
      simp only [Bool.false_eq_true, if_false, strB_size, Bool.and_eq_true, decide_eq_true_eq]
      omega
def bkB (b : Bk) : List Int := (if b.bad = true then (1 : Int) else 0) :: (leN 1 b.pages.length ++ (leN 4 b.er ++ []))
def decBk (body : List Int) : (Bool × Int × Int) × Int :=
  (((flagR (body, 0)).1, (numR 1 (flagR (body, 0)).2).1, (numR 4 (numR 1 (flagR (body, 0)).2).2).1), doneR (numR 4 (numR 1 (flagR (body, 0)).2).2).2)
theorem decBk_ok {body : List Int} (hb : Byt body) (h : (decBk body).2 = 0) :
    body = (if (decBk body).1.1 = true then (1 : Int) else 0) :: (leN 1 (decBk body).1.2.1 ++ (leN 4 (decBk body).1.2.2 ++ [])) ∧ 0 ≤ (decBk body).1.2.1 ∧ (decBk body).1.2.1 ≤ 255 ∧ 0 ≤ (decBk body).1.2.2 := by
  unfold decBk at h ⊢
  obtain ⟨h1, h2⟩ := doneR_ok h
  have k2 : ∀ (n : Nat) (s : RS), (numR n s).2.2 = 0 → s.2 = 0 := fun n s h => (takeR_ok h).1
  have e2 := k2 _ _ h1
  have e1 := k2 _ _ e2
  obtain ⟨_, a1, b1⟩ := flagR_ok (s := (body, 0)) hb e1
  obtain ⟨_, a2, b2, c1, c2⟩ := numR_ok b1 e2
  obtain ⟨_, a3, b3, c3, c4⟩ := numR_ok b2 h1
  rw [h2] at a3
  refine ⟨a1.trans (by rw [a2, a3]), c1, ?_, c3⟩
  show (numR 1 (flagR (body, 0)).2).1 ≤ 255
  omega
def hdB (g : Ge) : List Int := leN 1 g.ch ++ (leN 1 g.di ++ (leN 1 g.bl ++ (leN 1 g.pa ++ [])))
def decHd (body : List Int) : Ge × Int :=
  (⟨(numR 1 (body, 0)).1, (numR 1 (numR 1 (body, 0)).2).1, (numR 1 (numR 1 (numR 1 (body, 0)).2).2).1, (numR 1 (numR 1 (numR 1 (numR 1 (body, 0)).2).2).2).1⟩, doneR (numR 1 (numR 1 (numR 1 (numR 1 (body, 0)).2).2).2).2)
def byG (g : Ge) : Prop := (0 ≤ g.ch ∧ g.ch ≤ 255) ∧ (0 ≤ g.di ∧ g.di ≤ 255) ∧ (0 ≤ g.bl ∧ g.bl ≤ 255) ∧ (0 ≤ g.pa ∧ g.pa ≤ 255)
theorem decHd_ok {body : List Int} (hb : Byt body) (h : (decHd body).2 = 0) : body = hdB (decHd body).1 := by
  unfold decHd at h ⊢
  obtain ⟨h1, h2⟩ := doneR_ok h
  have k2 : ∀ (n : Nat) (s : RS), (numR n s).2.2 = 0 → s.2 = 0 := fun n s h => (takeR_ok h).1
  have e3 := k2 _ _ h1
  have e2 := k2 _ _ e3
  have e1 := k2 _ _ e2
  obtain ⟨_, a1, b1, _, _⟩ := numR_ok (s := (body, 0)) hb e1
  obtain ⟨_, a2, b2, _, _⟩ := numR_ok b1 e2
  obtain ⟨_, a3, b3, _, _⟩ := numR_ok b2 e3
  obtain ⟨_, a4, b4, _, _⟩ := numR_ok b3 h1
  rw [h2] at a4
  unfold hdB
  exact a1.trans (by rw [a2, a3, a4])
section
variable (sm : List Int → Int)
def nextF {α : Type} (kind : Int) (dec : List Int → α × Int) (z : α) (s : RS) : α × RS :=
  if s.2 = 0 then (match openF sm s.1 with
    | .err e => (z, (s.1, e))
    | .ok k body size => ((dec body).1, (s.1.drop size, if k = kind ∧ (dec body).2 = 0 then 0 else 2)))
  else (z, s)
theorem nextF_ok {α : Type} {kind : Int} {dec : List Int → α × Int} {z : α} {s : RS} (hb : Byt s.1) (h : (nextF sm kind dec z s).2.2 = 0) :
    s.2 = 0 ∧ ∃ body, dec body = ((nextF sm kind dec z s).1, 0) ∧ s.1 = frF sm kind body ++ (nextF sm kind dec z s).2.1 ∧ Byt body ∧ Byt (nextF sm kind dec z s).2.1 := by
  unfold nextF at h ⊢
  split
  · rename_i h0
    rw [if_pos h0] at h
    cases ho : openF sm s.1 with
    | err e =>
      simp only [ho] at h
      rcases openF_err sm ho with rfl | rfl <;> simp at h
    | ok k body size =>
      simp only [ho] at h ⊢
      obtain ⟨e1, e2, e3, e4, e5, e6, e7⟩ := openF_ok sm hb ho
      split at h
      · rename_i hc
        obtain ⟨rfl, hd⟩ := hc
        exact ⟨h0, body, Prod.ext rfl hd, e1, e6, hb.drop _⟩
      · simp at h
  · rename_i h0
    rw [if_neg h0] at h
    exact (h0 h).elim
def errIn (s : RS) : Prop := s.2 = 0 ∨ s.2 = 2 ∨ s.2 = 14
theorem nextF_in {α : Type} {kind : Int} {dec : List Int → α × Int} {z : α} {s : RS} (h : errIn s) : errIn (nextF sm kind dec z s).2 := by
  unfold nextF
  split
  · split
    · rename_i e ho
      rcases openF_err sm ho with rfl | rfl
      · exact .inr (.inl rfl)
      · exact .inr (.inr rfl)
    · unfold errIn
      simp only
      split
      · exact .inl rfl
      · exact .inr (.inl rfl)
  · exact h
def pgF (x : Pg) : List Int := frF sm 80 (pgB x)
def pagesF : Nat → List Pg → RS → List Pg × RS
  | 0, ps, s => (ps, s)
  | n + 1, ps, s => if s.2 = 0 then pagesF n (ps ++ [(nextF sm 80 decPg noPg s).1]) (nextF sm 80 decPg noPg s).2 else pagesF n ps s
theorem pgB_len {x : Pg} (h : mayPg x = true) : (pgB x).length ≤ 65535 := by
  unfold pgB
  unfold mayPg at h
  split
  · simp
  · rename_i ht
    rw [if_neg ht] at h
    simp only [Bool.and_eq_true, decide_eq_true_eq] at h
    simp [leN_len, strI_len]
    omega
theorem pagesF_err : ∀ (n : Nat) (ps : List Pg) (s : RS), s.2 ≠ 0 → pagesF sm n ps s = (ps, s)
  | 0, _, _, _ => rfl
  | n + 1, ps, s, h => by
    unfold pagesF
    rw [if_neg h, pagesF_err n ps s h]
theorem pagesF_ok : ∀ (n : Nat) (acc : List Pg) (s : RS), Byt s.1 → (pagesF sm n acc s).2.2 = 0 →
    s.2 = 0 ∧ ∃ xs : List Pg, (pagesF sm n acc s).1 = acc ++ xs ∧ xs.length = n ∧ xs.all mayPg = true ∧ s.1 = xs.flatMap (pgF sm) ++ (pagesF sm n acc s).2.1 ∧ Byt (pagesF sm n acc s).2.1
  | 0, acc, s, hb, h => ⟨h, [], by simp [pagesF], rfl, rfl, by simp [pagesF], hb⟩
  | n + 1, acc, s, hb, h => by
    unfold pagesF at h ⊢
    split
    · rename_i h0
      rw [if_pos h0] at h
      have hs : (nextF sm 80 decPg noPg s).2.2 = 0 := by
        by_cases hne : (nextF sm 80 decPg noPg s).2.2 = 0
        · exact hne
        · rw [pagesF_err sm n _ _ hne] at h
          exact (hne h).elim
      obtain ⟨_, body, hd, e1, hb1, hb2⟩ := nextF_ok sm hb hs
      obtain ⟨_, xs, q1, q2, q3, q4, q5⟩ := pagesF_ok n _ _ hb2 h
      have hp := decPg_ok hb1 (by rw [hd])
      rw [hd] at hp
      simp only at hp
      refine ⟨h0, (nextF sm 80 decPg noPg s).1 :: xs, ?_, by simp [q2], by simp [hp.2, q3], ?_, q5⟩
      · rw [q1, List.append_assoc]; rfl
      · rw [List.flatMap_cons, List.append_assoc, ← q4]
        unfold pgF
        rw [← hp.1]
        exact e1
    · rename_i h0
      rw [if_neg h0, pagesF_err sm n acc s h0] at h
      exact (h0 h).elim
theorem pagesF_in : ∀ (n : Nat) (acc : List Pg) (s : RS), errIn s → errIn (pagesF sm n acc s).2
  | 0, _, _, h => h
  | n + 1, acc, s, h => by
    unfold pagesF
    split
    · exact pagesF_in n _ _ (nextF_in sm h)
    · exact pagesF_in n _ _ h
def bkF (b : Bk) : List Int := frF sm 66 (bkB b) ++ b.pages.flatMap (pgF sm)
def blockF (s : RS) : Bk × RS :=
  (⟨(nextF sm 66 decBk (false, 0, 0) s).1.1, (nextF sm 66 decBk (false, 0, 0) s).1.2.2, (pagesF sm (nextF sm 66 decBk (false, 0, 0) s).1.2.1.toNat [] (nextF sm 66 decBk (false, 0, 0) s).2).1⟩,
    (pagesF sm (nextF sm 66 decBk (false, 0, 0) s).1.2.1.toNat [] (nextF sm 66 decBk (false, 0, 0) s).2).2)
def rdBk (b : Bk) : Prop := b.pages.length ≤ 255 ∧ b.pages.all mayPg = true ∧ 0 ≤ b.er
theorem blockF_ok {s : RS} (hb : Byt s.1) (h : (blockF sm s).2.2 = 0) : s.2 = 0 ∧ rdBk (blockF sm s).1 ∧ s.1 = bkF sm (blockF sm s).1 ++ (blockF sm s).2.1 ∧ Byt (blockF sm s).2.1 := by
  unfold blockF at h ⊢
  simp only at h ⊢
  have hs : (nextF sm 66 decBk (false, 0, 0) s).2.2 = 0 := by
    by_cases hne : (nextF sm 66 decBk (false, 0, 0) s).2.2 = 0
    · exact hne
    · rw [pagesF_err sm _ _ _ hne] at h
      exact (hne h).elim
  obtain ⟨h0, body, hd, e1, hb1, hb2⟩ := nextF_ok sm hb hs
  obtain ⟨_, xs, q1, q2, q3, q4, q5⟩ := pagesF_ok sm _ _ _ hb2 h
  obtain ⟨k1, k2, k3, k4⟩ := decBk_ok hb1 (by rw [hd])
  rw [hd] at k1 k2 k3 k4
  simp only at k1 k2 k3 k4
  rw [List.nil_append] at q1
  generalize (nextF sm 66 decBk (false, 0, 0) s).1 = v at k1 k2 k3 k4 q1 q2 q4 q5 ⊢
  have hx : (xs.length : Int) = v.2.1 := by omega
  refine ⟨h0, ⟨by rw [q1]; show xs.length ≤ 255; omega, by rw [q1]; exact q3, k4⟩, ?_, q5⟩
  unfold bkF bkB
  simp only [q1, hx]
  rw [← k1, List.append_assoc, ← q4]
  exact e1
theorem blockF_in {s : RS} (h : errIn s) : errIn (blockF sm s).2 := by
  unfold blockF
  exact pagesF_in sm _ _ _ (nextF_in sm h)
def blocksF : Nat → List Bk → RS → List Bk × RS
  | 0, bs, s => (bs, s)
  | n + 1, bs, s => if s.2 = 0 then blocksF n (bs ++ [(blockF sm s).1]) (blockF sm s).2 else blocksF n bs s
theorem blocksF_err : ∀ (n : Nat) (bs : List Bk) (s : RS), s.2 ≠ 0 → blocksF sm n bs s = (bs, s)
  | 0, _, _, _ => rfl
  | n + 1, bs, s, h => by
    unfold blocksF
    rw [if_neg h, blocksF_err n bs s h]
theorem blocksF_ok : ∀ (n : Nat) (acc : List Bk) (s : RS), Byt s.1 → (blocksF sm n acc s).2.2 = 0 →
    s.2 = 0 ∧ ∃ xs : List Bk, (blocksF sm n acc s).1 = acc ++ xs ∧ xs.length = n ∧ (∀ b ∈ xs, rdBk b) ∧ s.1 = xs.flatMap (bkF sm) ++ (blocksF sm n acc s).2.1
  | 0, acc, s, hb, h => ⟨h, [], by simp [blocksF], rfl, by simp, by simp [blocksF]⟩
  | n + 1, acc, s, hb, h => by
    unfold blocksF at h ⊢
    split
    · rename_i h0
      rw [if_pos h0] at h
      have hs : (blockF sm s).2.2 = 0 := by
        by_cases hne : (blockF sm s).2.2 = 0
        · exact hne
        · rw [blocksF_err sm n _ _ hne] at h
          exact (hne h).elim
      obtain ⟨_, hr, e1, hb2⟩ := blockF_ok sm hb hs
      obtain ⟨_, xs, q1, q2, q3, q4⟩ := blocksF_ok n _ _ hb2 h
      refine ⟨h0, (blockF sm s).1 :: xs, ?_, by simp [q2], ?_, ?_⟩
      · rw [q1, List.append_assoc]; rfl
      · intro b hb
        rcases List.mem_cons.1 hb with rfl | hb
        · exact hr
        · exact q3 b hb
      · rw [List.flatMap_cons, List.append_assoc, ← q4]
        exact e1
    · rename_i h0
      rw [if_neg h0, blocksF_err sm n acc s h0] at h
      exact (h0 h).elim
theorem blocksF_in : ∀ (n : Nat) (acc : List Bk) (s : RS), errIn s → errIn (blocksF sm n acc s).2
  | 0, _, _, h => h
  | n + 1, acc, s, h => by
    unfold blocksF
    split
    · exact blocksF_in n _ _ (blockF_in sm h)
    · exact blocksF_in n _ _ h
def chkG (g : Ge) : Bool := decide (1 ≤ g.ch ∧ g.ch ≤ 64) && (decide (1 ≤ g.di ∧ g.di ≤ 64) && (decide (1 ≤ g.bl ∧ g.bl ≤ 64) && (decide (2 ≤ g.pa ∧ g.pa ≤ 16) && (decide (3 ≤ g.ch * g.di * g.bl) && decide (g.ch * g.di * g.bl ≤ 64)))))
def nB (g : Ge) : Int := if chkG g = true then g.ch * g.di * g.bl else 0
def mayBk (g : Ge) (i : Nat) (b : Bk) : Bool := !(b.bad && decide (i < 2)) && (decide (0 ≤ b.er) && (decide (b.er ≤ 2147483647) && (decide ((b.pages.length : Int) ≤ g.pa) && b.pages.all mayPg)))
def mayBs (g : Ge) : Nat → List Bk → Bool
  | _, [] => true
  | i, b :: bs => mayBk g i b && mayBs g (i + 1) bs
def mayF (g : Ge) (bs : List Bk) : Bool := chkG g && (((bs.length : Int) == nB g) && mayBs g 0 bs)
def toldF (g : Ge) (bs : List Bk) : List Int := frF sm 71 (hdB g) ++ bs.flatMap (bkF sm)
def startS (h : Ge × RS) : RS := if h.2.2 = 0 ∧ chkG h.1 = false then (h.2.1, 2) else h.2
def endE (g : Ge) (q : List Bk × RS) : Int := if q.2.2 = 0 ∧ (q.2.1 ≠ [] ∨ mayF g q.1 = false) then 2 else q.2.2
theorem startS_ok {h : Ge × RS} (hs : (startS h).2 = 0) : h.2.2 = 0 ∧ startS h = h.2 := by
  unfold startS at hs ⊢
  split
  · rename_i hc; rw [if_pos hc] at hs; simp at hs
  · rename_i hc; rw [if_neg hc] at hs; exact ⟨hs, rfl⟩
theorem startS_in {h : Ge × RS} (hs : errIn h.2) : errIn (startS h) := by
  unfold startS
  split
  · exact .inr (.inl rfl)
  · exact hs
theorem endE_ok {g : Ge} {q : List Bk × RS} (h : endE g q = 0) : q.2.2 = 0 ∧ q.2.1 = [] ∧ mayF g q.1 = true := by
  unfold endE at h
  split at h
  · simp at h
  · rename_i hc
    simp only [not_and, not_or, Bool.not_eq_false, ne_eq, Decidable.not_not] at hc
    have := hc h
    exact ⟨h, this.1, this.2⟩
theorem endE_in {g : Ge} {q : List Bk × RS} (h : errIn q.2) : endE g q = 0 ∨ endE g q = 2 ∨ endE g q = 14 := by
  unfold endE
  split
  · exact .inr (.inl rfl)
  · exact h
def headF' (b : List Int) : Ge × RS := nextF sm 71 decHd ⟨0, 0, 0, 0⟩ (b, 0)
def parseF (b : List Int) : Ge × List Bk × Int :=
  ((headF' sm b).1, (blocksF sm (nB (headF' sm b).1).toNat [] (startS (headF' sm b))).1, endE (headF' sm b).1 (blocksF sm (nB (headF' sm b).1).toNat [] (startS (headF' sm b))))
theorem chk_by {g : Ge} (h : chkG g = true) : byG g := by
  unfold chkG at h
  simp only [Bool.and_eq_true, decide_eq_true_eq] at h
  unfold byG
  omega
theorem told_parse {b : List Int} (hb : Byt b) {g : Ge} {bs : List Bk} (h : parseF sm b = (g, bs, 0)) : b = toldF sm g bs ∧ mayF g bs = true := by
  unfold parseF at h
  simp only [Prod.mk.injEq] at h
  obtain ⟨rfl, rfl, h3⟩ := h
  obtain ⟨hq, hr, hm⟩ := endE_ok h3
  refine ⟨?_, hm⟩
  have hs : (startS (headF' sm b)).2 = 0 := by
    by_cases hne : (startS (headF' sm b)).2 = 0
    · exact hne
    · rw [blocksF_err sm _ _ _ hne] at hq
      exact (hne hq).elim
  obtain ⟨h0, es⟩ := startS_ok hs
  rw [es] at hq hr hm ⊢
  obtain ⟨_, body, hd, e1, hb1, hb2⟩ := nextF_ok sm (s := (b, 0)) hb h0
  obtain ⟨_, xs, q1, q2, q3, q4⟩ := blocksF_ok sm _ _ _ hb2 hq
  have hp := decHd_ok hb1 (by rw [hd])
  rw [hd] at hp
  simp only at hp
  rw [List.nil_append] at q1
  unfold toldF
  rw [show (blocksF sm (nB (headF' sm b).1).toNat [] (headF' sm b).2).1 = xs from q1]
  have hr2 : (blocksF sm (nB (headF' sm b).1).toNat [] (nextF sm 71 decHd ⟨0, 0, 0, 0⟩ (b, 0)).2).2.1 = [] := hr
  rw [hr2, List.append_nil] at q4
  unfold headF'
  rw [← hp, ← q4]
  exact e1
theorem parse_err {b : List Int} : (parseF sm b).2.2 = 0 ∨ (parseF sm b).2.2 = 2 ∨ (parseF sm b).2.2 = 14 := by
  unfold parseF
  exact endE_in (blocksF_in sm _ _ _ (startS_in (nextF_in sm (.inl rfl))))
end
end Go.Proofs.Ytibefgdjijmncaa
end
