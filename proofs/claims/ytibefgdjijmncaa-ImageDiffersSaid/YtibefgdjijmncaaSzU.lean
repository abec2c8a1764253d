/- Symbolic walks, part U: methods. No condition. -/
import Derived.Test.YtibefgdjijmncaaSzV
namespace Go.Proofs.Ytibefgdjijmncaa.Sz
open Go.RowKit
set_option linter.unusedVariables false
set_option linter.unusedSimpArgs false
set_option maxHeartbeats 2000000
/-- Some objects, dead. -/
def killL : Mem → List Nat → Mem
  | m, [] => m
  | m, q :: qs => killL (m.set q ⟨false, []⟩) qs
/-- Some objects, others now. -/
def putL : Mem → List Nat → List SObj → Mem
  | m, q :: qs, o :: os => putL (m.set q o) qs os
  | m, _, _ => m
theorem putL_len : ∀ {qs : List Nat} {os : List SObj} {m : Mem}, (putL m qs os).length = m.length
  | [], _, m => by unfold putL; rfl
  | _ :: _, [], m => by unfold putL; rfl
  | q :: qs, o :: os, m => by unfold putL; rw [putL_len]; simp
theorem putL_not : ∀ {qs : List Nat} {os : List SObj} {m : Mem} {k : Nat}, k ∉ qs → (putL m qs os)[k]? = m[k]?
  | [], _, m, k, h => by unfold putL; rfl
  | _ :: _, [], m, k, h => by unfold putL; rfl
  | q :: qs, o :: os, m, k, h => by
    simp only [List.mem_cons, not_or] at h
    unfold putL
    rw [putL_not h.2, List.getElem?_set_ne (Ne.symm h.1)]
theorem putL_at : ∀ {qs : List Nat} {os : List SObj} {m : Mem} {i q : Nat} {o : SObj}, qs.Nodup → qs[i]? = some q → os[i]? = some o → q < m.length → (putL m qs os)[q]? = some o
  | [], _, m, i, q, o, _, h, _, _ => by simp at h
  | _ :: _, [], m, i, q, o, _, _, h, _ => by simp at h
  | q' :: qs, o' :: os, m, 0, q, o, hn, h1, h2, hq => by
    simp at h1 h2; subst h1; subst h2
    rw [List.nodup_cons] at hn
    unfold putL
    rw [putL_not hn.1, List.getElem?_set_self hq]
  | q' :: qs, o' :: os, m, i + 1, q, o, hn, h1, h2, hq => by
    rw [List.nodup_cons] at hn
    unfold putL
    exact putL_at hn.2 (by simpa using h1) (by simpa using h2) (by simpa using hq)
section
variable {base : Nat → Prop} {w0 W W1 : World} {r : List Loc} {m : Mem}
theorem St.killL [Inp] (qs : List Nat) (h : St base w0 r m W) : St base w0 r (Sz.killL m qs) W := by
  induction qs generalizing m with
  | nil => exact h
  | cons q qs ih => exact ih (h.kill1 q)
theorem killL_get : ∀ {qs : List Nat} {m : Mem} {k : Nat} {o : SObj}, (killL m qs)[k]? = some o → o = ⟨false, []⟩ ∨ (k ∉ qs ∧ m[k]? = some o)
  | [], m, k, o, h => .inr ⟨by simp, h⟩
  | q :: qs, m, k, o, h => by
    unfold Sz.killL at h
    rcases killL_get h with h | ⟨h1, h2⟩
    · exact .inl h
    · rw [List.getElem?_set] at h2
      by_cases e : q = k
      · subst e
        simp at h2
        exact .inl h2.2.symm
      · rw [if_neg e] at h2
        exact .inr ⟨by simp [h1, Ne.symm e], h2⟩
theorem knows_op {I : Inp} (hst : St base w0 r m W) {F : Nat → List Nat} (hF : Hid base r m W F) {g : List Nat} (hgo : ∀ x ∈ g, ∃ o, m[x]? = some o ∧ o.own = true) (n : Nat) {s : SV} {u : Value} (hs : s.Is r u) : Knows I (opI W (opB W r F g) n) (killL m g) s u := by
  have hst' := hst.killL g
  refine ⟨fun x hx => by subst hx; simpa only [SV.Is] using hs, fun ys hx => ?_, fun z k ys hsl => ?_⟩
  · subst hx
    simp only [SV.Is] at hs
    obtain ⟨us, rfl, hus⟩ := hs
    rw [isL_v_inv hus]
  · obtain ⟨p, c, us, rfl, hus, hlen, hcell⟩ := sl_cells hst' hsl hs
    have hxl := slOf_len hsl
    obtain rfl := isL_v_inv hus
    refine ⟨p, c, rfl, inpL_of (I := opI W (opB W r F g) n) (by simpa using hxl) fun hne => ?_⟩
    rcases hcell with ⟨a, rfl, hc⟩ | ⟨_, h0⟩
    · have hc := hc W (Same.refl _ _)
      obtain ⟨x, hx⟩ : ∃ x, us[0]? = some x := by
        cases us with
        | nil => exact (hne rfl).elim
        | cons x _ => exact ⟨x, rfl⟩
      have h0 := hc 0 x hx
      rw [add_zero_addr] at h0
      have hap : ¬ opB W r F g a.block := by
        have hlt := cell_lt h0
        unfold slOf at hsl
        split at hsl
        · rename_i kk o n1 sz
          simp only [SV.Is] at hs
          obtain ⟨l, cap, hl, _, _, hu⟩ := hs
          injection hu with hu; injection hu with hu
          subst hu
          split at hsl
          · split at hsl
            · rename_i ob hob
              split at hsl
              · injection hsl with hsl; injection hsl with h1 h2
                have hcn : ob.cells ≠ [] := by
                  intro he
                  rw [he] at h2
                  simp at h2
                  exact hne h2
                rcases killL_get hob with rfl | ⟨hk, hob⟩
                · exact (hcn rfl).elim
                · intro hb
                  rcases hb with hb | ⟨x, hx, hb⟩
                  · exact absurd hlt (by simp only; omega)
                  · obtain ⟨ox, hox, howx⟩ := hgo x hx
                    rcases hb with ⟨lx, h3, h4⟩ | hb
                    · exact hst.sep x kk lx l ox ob h3 hl hox hob (fun e => hk (e ▸ hx)) howx (.inr hcn) h4.symm
                    · exact hF.far x _ hb kk l ob hl hob (.inr hcn) rfl
              · cases hsl
            · cases hsl
          · cases hsl
        · rename_i p n1 c1
          obtain ⟨vs, h1, h2⟩ := Option.map_eq_some_iff.1 hsl
          injection h2 with h2 h3
          simp only [SV.Is] at hs
          injection hs with e1 e2 e3
          subst e1
          obtain ⟨hlen2, hat⟩ := inpL_some h1
          have hk : n1 * z ≠ 0 := by
            intro h0
            rw [h0] at hlen2
            rw [List.length_eq_zero_iff.1 hlen2] at h3
            exact hne (by simpa using h3.symm)
          obtain ⟨a', ha', _, hat⟩ := hat hk
          injection ha' with ha'
          subst ha'
          obtain ⟨y, hy⟩ : ∃ y, vs[0]? = some y := by
            cases vs with
            | nil => simp at hlen2; omega
            | cons y _ => exact ⟨y, rfl⟩
          have := hat 0 y hy
          rw [add_zero_addr] at this
          exact fun hb => (hst.inp _ _ this).1 (opB_base hst hF hgo hb)
        · injection hsl with hsl; injection hsl with h1 h2
          exact (hne (by simpa using h2.symm)).elim
        · injection hsl with hsl; injection hsl with h1 h2
          exact (hne (by simpa using h2.symm)).elim
        · cases hsl
      refine ⟨a, rfl, World.cell?_spot h0, fun i u hi => ?_⟩
      show (open Classical in if opB W r F g (a.add i).block then none else W.cell? (a.add i)) = some u
      have e : (a.add i).block = a.block := by unfold Addr.add; split <;> rfl
      rw [if_neg (by rw [e]; exact hap)]
      exact hc i u hi
    · exact (hne h0).elim
theorem knowsL_op {I : Inp} (hst : St base w0 r m W) {F : Nat → List Nat} (hF : Hid base r m W F) {g : List Nat} (hgo : ∀ x ∈ g, ∃ o, m[x]? = some o ∧ o.own = true) (n : Nat) : ∀ {ss : List SV} {us : List Value}, SV.IsL r ss us → KnowsL I (opI W (opB W r F g) n) (killL m g) ss us
  | [], us, h => by simpa only [SV.IsL, KnowsL] using h
  | s :: ss, us, h => by
    simp only [SV.IsL] at h
    obtain ⟨u, t, rfl, h1, h2⟩ := h
    exact ⟨u, t, rfl, knows_op hst hF hgo n h1, knowsL_op hst hF hgo n h2⟩
end
/-- What comes of a method: what is hidden now, what it leads to, new objects, and the value. -/
structure Out where
  h : List SV
  os : List RO
  H : Mem
  X : Mem
  s : SV
def Out.mem (o : Out) : Mem := opM o.h o.os o.H ++ o.X.map (SObj.up (opM o.h o.os o.H).length)
theorem ptr_inv0 {r : List Loc} {j o : Nat} {vs : List Value} {l : List SV} (h : SV.IsL r (.ptr j o :: l) vs) : ∃ lc t, r[j]? = some lc ∧ vs = .pointer (some ⟨lc.blk, lc.off + o, none⟩) :: t ∧ SV.IsL r l t := by
  simp only [SV.IsL, SV.Is] at h
  obtain ⟨u, t, rfl, ⟨lc, hl, rfl⟩, ht⟩ := h
  exact ⟨lc, t, hl, rfl, ht⟩
section
variable {P : Program} {f : FuncId} {eff : List FuncId} {N : Nat} {x : XC} {rs : List XR}
/-- A method of an object that hides what it is made of: walked over that, and over the objects that it leads to. -/
theorem Contract.methA [I : Inp] (hF : FnX P f eff N x rs) {G : Inp → List CEntry} (hG : ∀ J, @GOk J P (G J)) (tr : Trans)
    (body : ∀ args m k, tr args m k → ∃ (j n : Nat) (us : List SV) (Q : List SV → Mem → Prop) (refs : List Nat) (os : List RO), args = .ptr j 0 :: us ∧ m[j]? = some (absO (hide n Q) refs) ∧ (j :: refs).Nodup ∧ refs.length = n ∧ os.length = n ∧
      (∀ (i q : Nat) (o : RO), refs[i]? = some q → os[i]? = some o → m[q]? = some (o.out (j :: refs)) ∧ o.ok (n + 1)) ∧ us.length + 1 ≤ N ∧
      ∀ h H, Q h H → ∀ J : Inp, J.keep = n + 1 → ∀ vs, KnowsL I J (killL m (j :: refs)) us vs →
        @evX J P N eff (G J) x (slots (argSlots 0 (.ptr 0 0 :: vs.map SV.of))) (opM h os H) (fun ex e m' => EndsX ex ∧ evR rs e m' fun s => ∃ (c : Out) (Q' : List SV → Mem → Prop) (g : List Nat), NdL g c.mem ∧ FitM g m' g c.mem ∧ @KeepOk J g ∧ Le g (c.s.up (opM c.h c.os c.H).length) s ∧
          c.os.length = n ∧ (∀ o ∈ c.os, o.ok (n + 1)) ∧ Q' c.h (c.H ++ c.X.map fun _ => ⟨false, []⟩) ∧ (∀ o ∈ c.H, o.own = true ∨ o.cells = []) ∧ (∀ o ∈ c.X, o.own = true) ∧
          k (c.s.up m.length) (putL m (j :: refs) (absO (hide n Q') refs :: c.os.map (RO.out (j :: refs))) ++ c.X.map (SObj.up m.length)))) : Contract P f false tr := by
  refine ⟨hF.enter, fun args m k base w0 W r vs ht hst ha => ?_⟩
  obtain ⟨j, n, us, Q, refs, os, rfl, hm, hnd, hrn, hon, hos, hlen, hev⟩ := body args m k ht
  obtain ⟨l, vs, hl, rfl, ha2⟩ := ptr_inv0 ha
  obtain ⟨F, hFF⟩ := @St.hid I _ _ _ _ _ hst
  obtain ⟨h, H, ls, rH, hQ, hlsn, hrH, hls, hop⟩ := @St.open_ _ _ _ _ _ I hst F hFF j n l Q refs os hl hm hnd hrn hon hos
  have hgo : ∀ x ∈ j :: refs, ∃ o, m[x]? = some o ∧ o.own = true := by
    intro x hx
    rcases List.mem_cons.1 hx with rfl | hx
    · exact ⟨_, hm, rfl⟩
    · obtain ⟨i, hi⟩ := List.getElem?_of_mem hx
      obtain ⟨o, ho⟩ : ∃ o, os[i]? = some o := ⟨_, List.getElem?_eq_getElem (by have := (List.getElem?_eq_some_iff.1 hi).1; omega)⟩
      exact ⟨_, (hos i x o hi ho).1, RO.out_own⟩
  have hk := knowsL_op (I := I) hst hFF hgo (n + 1) ha2
  have hvl := IsL_len ha2
  have hargs : @SV.IsL (l :: (ls ++ rH)) (.ptr 0 0 :: vs.map SV.of) (.pointer (some ⟨l.blk, l.off + 0, none⟩) :: vs) := by
    simp only [SV.IsL, SV.Is]
    exact ⟨_, _, rfl, ⟨l, rfl, rfl⟩, isL_of vs⟩
  refine (@FnX.calls P f eff N x rs (G (opI W (opB W r F (j :: refs)) (n + 1))) (opI W (opB W r F (j :: refs)) (n + 1)) hF (hG _) _ _ _ _ _ _ _ hop hargs (by simp; omega) _ (hev h H hQ _ rfl vs hk)).mono ?_
  rintro e W1 ⟨s, m', r', u, ⟨c, Q', g, hnl, hfm, hkg, hle, c1, c2, c3, c4, c5, hkk⟩, rfl, hst1, hs, hkp⟩
  obtain ⟨r2, hst2, hr2, _⟩ := @fit_sound (opI W (opB W r F (j :: refs)) (n + 1)) 0 _ (fun _ => .any) _ _ [] _ _ _ _ #[] hnl hfm hst1
  -- the first locations are kept
  have hlen2 : r2.length = c.mem.length := @St.len (opI W (opB W r F (j :: refs)) (n + 1)) _ _ _ _ _ hst2
  have hkeep : ∀ q, q < n + 1 → r2[q]? = (l :: (ls ++ rH))[q]? := by
    intro q hq
    obtain ⟨lq, hlq⟩ : ∃ lq, (l :: (ls ++ rH))[q]? = some lq := ⟨_, List.getElem?_eq_getElem (by simp; omega)⟩
    rw [hlq]
    exact hr2 q q (hkg q hq) lq (hkp q lq hq hlq)
  have hopl : (opM c.h c.os c.H).length = n + 1 + c.H.length := by simp [opM, c1]; omega
  have hml : c.mem.length = n + 1 + c.H.length + c.X.length := by simp [Out.mem, hopl]
  obtain ⟨rH2, rX2, hsplit, hrH2⟩ : ∃ rH2 rX2, r2 = (l :: (ls ++ rH2)) ++ rX2 ∧ rH2.length = c.H.length := by
    refine ⟨(r2.drop (n + 1)).take c.H.length, (r2.drop (n + 1)).drop c.H.length, ?_, by simp; omega⟩
    have e1 : r2.take (n + 1) = l :: ls := by
      apply List.ext_getElem?
      intro q
      rw [List.getElem?_take]
      split
      · rename_i hq
        rw [hkeep q hq]
        cases q with
        | zero => rfl
        | succ q => rw [List.getElem?_cons_succ, List.getElem?_cons_succ, List.getElem?_append_left (by omega)]
      · rename_i hq
        rw [List.getElem?_eq_none (by simp; omega)]
    calc r2 = r2.take (n + 1) ++ r2.drop (n + 1) := (List.take_append_drop _ _).symm
      _ = (l :: ls) ++ ((r2.drop (n + 1)).take c.H.length ++ (r2.drop (n + 1)).drop c.H.length) := by rw [e1, List.take_append_drop]
      _ = _ := by simp
  subst hsplit
  have hj : j < m.length := (List.getElem?_eq_some_iff.1 hm).1
  have hsh := @St.shutX _ _ _ _ _ _ I hst F hFF j n l _ Q' refs os c.os hl hm hnd hrn hon hos ls rH2 rX2 hls _ c.h c.H c.X c5 hrH2 hst2 c1 c2 c3 c4
    (putL m (j :: refs) (absO (hide n Q') refs :: c.os.map (RO.out (j :: refs)))) putL_len (putL_at (i := 0) hnd rfl rfl hj) (fun i q o hq ho => putL_at (i := i + 1) hnd (by simpa using hq) (by simp [ho]) (by
      obtain ⟨o1, ho1⟩ : ∃ o, os[i]? = some o := ⟨_, List.getElem?_eq_getElem (by have := (List.getElem?_eq_some_iff.1 ho).1; omega)⟩
      exact (List.getElem?_eq_some_iff.1 (hos i q o1 hq ho1).1).1)) (fun k hk => putL_not hk)
  have hml2 : r.length = m.length := @St.len I _ _ _ _ _ hst
  refine ⟨_, _, rX2, u, hkk, rfl, hsh, ?_, fun h => by cases h⟩
  have hu := Le.is hr2 hle hs
  have hRl : (opM c.h c.os c.H).length = (l :: (ls ++ rH2)).length := by rw [hopl]; simp; omega
  rw [hRl] at hu
  have := up_is (r := r) (un_is hu)
  rw [hml2] at this
  exact this
/-- A function walked with the caller's own memory. -/
theorem kept_ext' [Inp] {r r' : List Loc} {n : Nat} (h : Inp.keep = n) (hn : n = r.length) (hk : Kp r r') : ∃ t, r' = r ++ t := by
  refine ⟨r'.drop r.length, ?_⟩
  apply List.ext_getElem?
  intro k
  by_cases hlt : k < r.length
  · rw [List.getElem?_append_left hlt, List.getElem?_eq_getElem hlt]
    exact hk k _ (by omega) (List.getElem?_eq_getElem hlt)
  · rw [List.getElem?_append_right (by omega), List.getElem?_drop]
    congr 1
    omega
theorem Contract.full [I : Inp] (hF : FnX P f eff N x rs) {G : Inp → List CEntry} (hG : ∀ J, @GOk J P (G J)) (tr : Trans)
    (body : ∀ args m k, tr args m k → args.length ≤ N ∧ ∀ J : Inp, J.keep = m.length → J.at_ = I.at_ → @evX J P N eff (G J) x (slots (argSlots 0 args)) m (fun ex e m' => EndsX ex ∧ evR rs e m' fun s => k s m')) : Contract P f false tr := by
  refine ⟨hF.enter, fun args m k base w0 W r vs ht hst ha => ?_⟩
  obtain ⟨hlen, hev⟩ := body args m k ht
  have hl := @St.len I _ _ _ _ _ hst
  have hst2 : @St ⟨I.at_, m.length⟩ base w0 r m W := @St.mk ⟨I.at_, m.length⟩ _ _ _ _ _ (@St.low I _ _ _ _ _ hst) (@St.from_ I _ _ _ _ _ hst) (@St.inp I _ _ _ _ _ hst) hl (@St.obj I _ _ _ _ _ hst) (@St.sep I _ _ _ _ _ hst) (@St.hid I _ _ _ _ _ hst)
  refine (@FnX.calls P f eff N x rs (G ⟨I.at_, m.length⟩) ⟨I.at_, m.length⟩ hF (hG _) _ _ _ _ _ _ _ hst2 ha hlen (fun s m' => k s m') (hev ⟨I.at_, m.length⟩ rfl rfl)).mono ?_
  rintro e W1 ⟨s, m', r', u, hk, rfl, hst1, hs, hkp⟩
  obtain ⟨t, rfl⟩ := @kept_ext' ⟨I.at_, m.length⟩ _ _ _ rfl hl.symm hkp
  exact ⟨s, m', t, u, hk, rfl, @St.mk I _ _ _ _ _ (@St.low ⟨I.at_, m.length⟩ _ _ _ _ _ hst1) (@St.from_ ⟨I.at_, m.length⟩ _ _ _ _ _ hst1) (@St.inp ⟨I.at_, m.length⟩ _ _ _ _ _ hst1) (@St.len ⟨I.at_, m.length⟩ _ _ _ _ _ hst1) (@St.obj ⟨I.at_, m.length⟩ _ _ _ _ _ hst1) (@St.sep ⟨I.at_, m.length⟩ _ _ _ _ _ hst1) (@St.hid ⟨I.at_, m.length⟩ _ _ _ _ _ hst1), hs, fun h => by cases h⟩
end
/-! ### Sealed: objects become one that hides them -/
theorem killL_not : ∀ {qs : List Nat} {m : Mem} {k : Nat}, k ∉ qs → (killL m qs)[k]? = m[k]?
  | [], m, k, h => rfl
  | q :: qs, m, k, h => by
    simp only [List.mem_cons, not_or] at h
    unfold killL
    rw [killL_not h.2, List.getElem?_set_ne (Ne.symm h.1)]
theorem killL_len : ∀ {qs : List Nat} {m : Mem}, (killL m qs).length = m.length
  | [], m => rfl
  | q :: qs, m => by unfold killL; rw [killL_len]; simp
section
variable {base : Nat → Prop} {w0 W : World} {r : List Loc} {m : Mem}
theorem St.seal [I : Inp] (hst : St base w0 r m W) {j n : Nat} {refs gh : List Nat} {h : List SV} {H : Mem} {Q : List SV → Mem → Prop} (hrn : refs.length = n) (hnd : (j :: (refs ++ gh)).Nodup) (hfm : FitM (j :: (refs ++ gh)) m (j :: (refs ++ gh)) (hidM n h H)) (hQ : Q h H) (hown : ∀ o ∈ H, o.own = true ∨ o.cells = []) :
    St base w0 r ((Sz.killL m gh).set j (absO (hide n Q) refs)) W := by
  obtain ⟨F, hF⟩ := hst.hid
  obtain ⟨hstR, hrR, _⟩ := fit_sound' (N := 0) (e := fun _ => .any) (l := []) (ts := #[]) (NdL_of hnd) hfm hst
  have hF2 := fit_hid (NdL_of hnd) hfm hst hF
  have hF2d : ∀ k, ∀ b ∈ fitF (j :: (refs ++ gh)) (hidM n h H) F k, ∃ q o, (j :: (refs ++ gh))[k]? = some q ∧ (hidM n h H)[k]? = some o ∧ o.isA = true ∧ b ∈ F q := by
    intro k b hb
    unfold fitF at hb
    split at hb
    · rename_i o ho
      split at hb
      · rename_i ha
        split at hb
        · rename_i q hq
          exact ⟨q, o, hq, ho, ha, hb⟩
        · simp at hb
      · simp at hb
    · simp at hb
  generalize fitF (j :: (refs ++ gh)) (hidM n h H) F = F2 at hF2 hF2d
  generalize fitR (j :: (refs ++ gh)) r = R at hstR hrR hF2
  obtain ⟨hgl, hgo⟩ := FitM_get hfm
  have hHl : gh.length = H.length := by simp [hidM, hrn] at hgl; omega
  obtain ⟨o0, q0, hj0, hj1, hj2⟩ := hgo 0 _ hidM_0
  simp at hj0; subst hj0
  have hj : j < m.length := (List.getElem?_eq_some_iff.1 hj1).1
  have how0 : q0.own = true := by
    rcases hj2 with hj2 | ⟨hj2, _⟩
    · cases hj2
    · exact hj2 rfl
  have hlen := hst.len
  obtain ⟨l, hl⟩ : ∃ l, r[j]? = some l := ⟨_, List.getElem?_eq_getElem (by omega)⟩
  have hRlen : R.length = n + 1 + H.length := by rw [hstR.len]; simp [hidM]; omega
  have hR0 : R[0]? = some l := hrR 0 j rfl l hl
  have nd2 := hnd
  rw [List.nodup_cons, List.nodup_append] at nd2
  obtain ⟨nj, nr, ng, nrg⟩ := nd2
  have njr : j ∉ refs := fun e => nj (List.mem_append_left _ e)
  have njg : j ∉ gh := fun e => nj (List.mem_append_right _ e)
  obtain ⟨ls, rH, hR, hlsn⟩ : ∃ ls rH, R = l :: (ls ++ rH) ∧ ls.length = n := by
    refine ⟨(R.drop 1).take n, (R.drop 1).drop n, ?_, by simp; omega⟩
    rw [List.take_append_drop]
    cases R with
    | nil => simp at hRlen; omega
    | cons a R => simp at hR0; subst hR0; rfl
  have hrH : rH.length = H.length := by rw [hR] at hRlen; simp at hRlen; omega
  -- the locations of what it leads to
  have hls : refs.mapM (r[·]?) = some ls := by
    refine mapM_some (by omega) fun i q lq hq hlq => ?_
    have hi : i < n := by have := (List.getElem?_eq_some_iff.1 hq).1; omega
    obtain ⟨o2, p2, b1, b2, b3⟩ := hgo (i + 1) _ (hidM_ref hi)
    rw [List.getElem?_cons_succ, List.getElem?_append_left (by omega), hq] at b1
    injection b1 with b1; subst b1
    obtain ⟨lx, hlx⟩ : ∃ lx, r[q]? = some lx := ⟨_, List.getElem?_eq_getElem (by have := (List.getElem?_eq_some_iff.1 b2).1; omega)⟩
    have e := hrR (i + 1) q (by rw [List.getElem?_cons_succ, List.getElem?_append_left (by omega)]; exact hq) lx hlx
    rw [hR, refs_get hlsn hi, hlq] at e
    injection e with e; subst e; exact hlx
  subst hR
  have own0 : ∀ (k : Nat) (o : SObj), (hidM n h H)[k]? = some o → o.own = true → k = 0 ∨ n < k := by
    intro k o hk ho
    rcases hidM_cases hk with ⟨rfl, _⟩ | ⟨i, _, rfl, rfl⟩ | ⟨i, rfl, _⟩
    · exact .inl rfl
    · simp at ho
    · exact .inr (by omega)
  -- what a hidden object was
  have was : ∀ (k : Nat) (lk : Loc) (o : SObj), (l :: (ls ++ rH))[k]? = some lk → (hidM n h H)[k]? = some o → n < k → ∃ (q : Nat) (o1 : SObj), q ∈ gh ∧ r[q]? = some lk ∧ m[q]? = some o1 ∧ (o.own = true → o1.own = true) := by
    intro k lk o h1 h2 hk
    obtain ⟨q, o1, b1, b2, b3⟩ := hgo k o h2
    have hqr : q ∈ gh := by
      obtain ⟨k', rfl⟩ : ∃ k', k = k' + 1 := ⟨k - 1, by omega⟩
      rw [List.getElem?_cons_succ, List.getElem?_append_right (by omega)] at b1
      exact List.mem_of_getElem? b1
    obtain ⟨lx, hlx⟩ : ∃ lx, r[q]? = some lx := ⟨_, List.getElem?_eq_getElem (by have := (List.getElem?_eq_some_iff.1 b2).1; omega)⟩
    have e := hrR k q b1 lx hlx
    rw [h1] at e; injection e with e; subst e
    refine ⟨q, o1, hqr, hlx, b2, fun ho => ?_⟩
    rcases b3 with rfl | ⟨b3, _⟩
    · simp at ho
    · exact b3 ho
  let fpN : List Nat := (List.range (l :: (ls ++ rH)).length).flatMap fun k => if n < k then (match (l :: (ls ++ rH))[k]?, (hidM n h H)[k]? with | some lk, some o => if o.own = true then [lk.blk] else [] | _, _ => []) ++ F2 k else []
  have fpm : ∀ b, b ∈ fpN ↔ ∃ k, k < (l :: (ls ++ rH)).length ∧ n < k ∧ ((∃ lk o, (l :: (ls ++ rH))[k]? = some lk ∧ (hidM n h H)[k]? = some o ∧ o.own = true ∧ b = lk.blk) ∨ b ∈ F2 k) := by
    intro b
    simp only [fpN, List.mem_flatMap, List.mem_range]
    constructor
    · rintro ⟨k, hk, hb⟩
      split at hb
      · rename_i hn
        refine ⟨k, hk, hn, ?_⟩
        rcases List.mem_append.1 hb with hb | hb
        · split at hb
          · rename_i lk o h1 h2
            split at hb
            · rename_i ho
              simp at hb
              exact .inl ⟨lk, o, h1, h2, ho, hb⟩
            · simp at hb
          · simp at hb
        · exact .inr hb
      · simp at hb
    · rintro ⟨k, hk, hn, hb⟩
      refine ⟨k, hk, ?_⟩
      rw [if_pos hn]
      rcases hb with ⟨lk, o, h1, h2, ho, rfl⟩ | hb
      · simp [h1, h2, ho]
      · simp [hb]
  have F2q : ∀ k, ∀ b ∈ F2 k, n < k ∧ ∃ q ∈ gh, b ∈ F q := by
    intro k b hb
    obtain ⟨q, o, b1, b2, b3, b4⟩ := hF2d k b hb
    have hk : n < k := by
      rcases hidM_cases b2 with ⟨rfl, rfl⟩ | ⟨i, _, rfl, rfl⟩ | ⟨i, rfl, _⟩
      · simp at b3
      · simp at b3
      · omega
    refine ⟨hk, q, ?_, b4⟩
    obtain ⟨k', rfl⟩ : ∃ k', k = k' + 1 := ⟨k - 1, by omega⟩
    rw [List.getElem?_cons_succ, List.getElem?_append_right (by omega)] at b1
    exact List.mem_of_getElem? b1
  have fpq : ∀ b, b ∈ fpN → ∃ q ∈ gh, (∃ lq oq, r[q]? = some lq ∧ m[q]? = some oq ∧ oq.own = true ∧ b = lq.blk) ∨ b ∈ F q := by
    intro b hb
    obtain ⟨k, _, hk, hb⟩ := (fpm b).1 hb
    rcases hb with ⟨lk, o, h1, h2, ho, rfl⟩ | hb
    · obtain ⟨q, o1, hq, hlq, hmq, how⟩ := was k lk o h1 h2 hk
      exact ⟨q, hq, .inl ⟨lk, o1, hlq, hmq, how ho, rfl⟩⟩
    · obtain ⟨_, q, hq, hb⟩ := F2q k b hb
      exact ⟨q, hq, .inr hb⟩
  have hideN : HideIs n Q ls l fpN W h H rH F2 := by
    refine ⟨hQ, hlsn, hrH, hown, fun k lk o h1 h2 hk => ?_, fun k lk o h1 h2 hk ho => ?_, fun k k' l1 l2 o o' h1 h1' h2 h2' hne ho ho' => hstR.sep k k' l1 l2 o o' h1 h1' h2 h2' hne ho (.inl ho'), fun k lk o h1 h2 => hF2.is k lk o h1 h2, fun k b hb => ?_, fun k b hb k' l1 o h1 h2 ho => hF2.far k b hb k' l1 o h1 h2 (.inl ho), hF2.apart⟩
    · have hO := hstR.obj k lk o h1 h2
      refine ⟨hO.there, hO.fits, fun ho => ?_, hO.lt, hO.ext⟩
      rcases hk with rfl | hk
      · simp at h1; exact .inl (by rw [h1])
      · exact .inr ((fpm _).2 ⟨k, (List.getElem?_eq_some_iff.1 h1).1, hk, .inl ⟨lk, o, h1, h2, ho, rfl⟩⟩)
    · exact (fpm _).2 ⟨k, (List.getElem?_eq_some_iff.1 h1).1, hk, .inl ⟨lk, o, h1, h2, ho, rfl⟩⟩
    · obtain ⟨hk, _⟩ := F2q k b hb
      obtain ⟨q, o, b1, b2, _⟩ := hF2d k b hb
      refine ⟨hk, (fpm b).2 ⟨k, ?_, hk, .inr hb⟩⟩
      have := (List.getElem?_eq_some_iff.1 b2).1
      rw [← hstR.len] at this
      exact this
  have get' : ∀ (k : Nat) (o : SObj), ((Sz.killL m gh).set j (absO (hide n Q) refs))[k]? = some o → (k = j ∧ o = absO (hide n Q) refs) ∨ (k ≠ j ∧ k ∈ gh ∧ o = ⟨false, []⟩) ∨ (k ≠ j ∧ k ∉ gh ∧ m[k]? = some o) := by
    intro k o hk
    rw [List.getElem?_set] at hk
    by_cases e : j = k
    · subst e
      simp [killL_len, hj] at hk
      exact .inl ⟨rfl, hk.symm⟩
    · rw [if_neg e] at hk
      by_cases hg : k ∈ gh
      · rcases killL_get hk with hk | ⟨hk, _⟩
        · exact .inr (.inl ⟨Ne.symm e, hg, hk⟩)
        · exact (hk hg).elim
      · rw [killL_not hg] at hk
        exact .inr (.inr ⟨Ne.symm e, hg, hk⟩)
  classical
  refine ⟨hst.low, hst.from_, hst.inp, by simp [killL_len, hlen], fun k lk o h1 h2 => ?_, fun k k' l1 l2 o o' h1 h1' h2 h2' hne ho hal => ?_, fun k => if k = j then fpN else if k ∈ gh then [] else F k, fun k lk o h1 h2 => ?_, fun k b hb => ?_, fun k b hb k' lk o h1 h2 hal => ?_, fun k k' b hb hb' => ?_⟩
  · rcases get' k o h2 with ⟨rfl, rfl⟩ | ⟨hk, hg, rfl⟩ | ⟨hk, hg, h3⟩
    · rw [hl] at h1; injection h1 with h1; subst h1
      have hO := hstR.obj 0 l _ rfl hidM_0
      refine ⟨fun _ _ => ?_, Nat.zero_le _, fun _ => hO.own rfl, hO.lt, rfl⟩
      obtain ⟨c, T, fr, g1, g2, g3, g4⟩ := hO.there rfl (.inl rfl)
      exact ⟨c, T, fr, g1, g2, by simp [absO, SV.IsL], fun _ => g4 rfl⟩
    · exact .dead (hst.locs lk (List.mem_of_getElem? h1))
    · exact hst.obj k lk o h1 h3
  · have old : ∀ (k : Nat) (o : SObj), ((Sz.killL m gh).set j (absO (hide n Q) refs))[k]? = some o → (o.own = true ∨ o.cells ≠ []) → ∃ o0, m[k]? = some o0 ∧ (o.own = true → o0.own = true) ∧ (o0.own = true ∨ o0.cells ≠ []) := by
      intro k o hk hal
      rcases get' k o hk with ⟨rfl, rfl⟩ | ⟨_, _, rfl⟩ | ⟨_, _, h3⟩
      · exact ⟨q0, hj1, fun _ => how0, .inl how0⟩
      · simp at hal
      · exact ⟨o, h3, id, hal⟩
    obtain ⟨o1, a1, a2, a3⟩ := old k o h2 (.inl ho)
    obtain ⟨o2, b1, b2, b3⟩ := old k' o' h2' hal
    exact hst.sep k k' l1 l2 o1 o2 h1 h1' a1 b1 hne (a2 ho) b3
  · rcases get' k o h2 with ⟨rfl, rfl⟩ | ⟨hk, hg, rfl⟩ | ⟨hk, hg, h3⟩
    · rw [hl] at h1; injection h1 with h1; subst h1
      simp only [if_true]
      rw [absO_hid]
      exact ⟨ls, hls, h, H, rH, _, hideN⟩
    · exact HidIs.not rfl
    · simp only [if_neg hk, if_neg hg]
      exact hF.is k lk o h1 h3
  · split at hb
    · obtain ⟨q, hq, hb⟩ := fpq b hb
      rcases hb with ⟨lq, oq, a1, a2, a3, rfl⟩ | hb
      · exact ⟨(hst.obj q lq oq a1 a2).own a3, (hst.obj q lq oq a1 a2).lt⟩
      · exact hF.base q b hb
    · split at hb
      · simp at hb
      · exact hF.base k b hb
  · split at hb
    · rename_i hkj
      subst hkj
      obtain ⟨q, hq, hb⟩ := fpq b hb
      have hqj : q ≠ k := fun e => njg (e ▸ hq)
      rcases get' k' o h2 with ⟨rfl, rfl⟩ | ⟨hk', hg', rfl⟩ | ⟨hk', hg', h3⟩
      · rw [hl] at h1; injection h1 with h1; subst h1
        rcases hb with ⟨lq, oq, a1, a2, a3, rfl⟩ | hb
        · exact fun e => hst.sep q k' lq l oq q0 a1 hl a2 hj1 hqj a3 (.inl how0) e.symm
        · exact hF.far q b hb k' l q0 hl hj1 (.inl how0)
      · simp at hal
      · rcases hb with ⟨lq, oq, a1, a2, a3, rfl⟩ | hb
        · exact fun e => hst.sep q k' lq lk oq o a1 h1 a2 h3 (fun e => hg' (e ▸ hq)) a3 hal e.symm
        · exact hF.far q b hb k' lk o h1 h3 hal
    · split at hb
      · simp at hb
      · rename_i hkj hkg
        rcases get' k' o h2 with ⟨rfl, rfl⟩ | ⟨hk', hg', rfl⟩ | ⟨hk', hg', h3⟩
        · rw [hl] at h1; injection h1 with h1; subst h1
          exact hF.far k b hb k' l q0 hl hj1 (.inl how0)
        · simp at hal
        · exact hF.far k b hb k' lk o h1 h3 hal
  · have key : ∀ (k b : Nat), b ∈ fpN → k ∉ gh → b ∈ F k → False := by
      intro k b hb hg hb'
      obtain ⟨q, hq, hb⟩ := fpq b hb
      rcases hb with ⟨lq, oq, a1, a2, a3, rfl⟩ | hb
      · exact hF.far k _ hb' q lq oq a1 a2 (.inl a3) rfl
      · exact hg (hF.apart q k b hb hb' ▸ hq)
    split at hb
    · rename_i hk
      split at hb'
      · rename_i hk'; rw [hk, hk']
      · split at hb'
        · simp at hb'
        · rename_i hk' hg'
          exact (key k' b hb hg' hb').elim
    · split at hb
      · simp at hb
      · rename_i hk hg
        split at hb'
        · exact (key k b hb' hg hb).elim
        · split at hb'
          · simp at hb'
          · exact hF.apart k k' b hb hb'
end
/-! ### A method of one object of plain cells -/
/-- All that stands in a world, but for one block; the walk's first object keeps its number. -/
@[reducible] def inpBut (W : World) (b : Nat) : Inp := ⟨fun a => if a.block = b then none else W.cell? a, 1⟩
section
variable {base : Nat → Prop} {w0 W W1 : World} {r : List Loc} {m : Mem} {j : Nat} {l : Loc} {ob : SObj}
theorem St.one [Inp] (hst : St base w0 r m W) (hl : r[j]? = some l) (hob : m[j]? = some ob) (hown : ob.own = true) (hm : ob.isM = false) (hp : plainL ob.cells = true) : @St (inpBut W l.blk) (fun k => W.heap.size ≤ k ∨ k = l.blk) W [l] [⟨true, ob.cells⟩] W := by
  have hO := hst.obj j l ob hl hob
  refine @St.mk (inpBut W l.blk) _ _ _ _ _ (Low.refl _ _) (fun _ h => .inl h) (fun a u h => ?_) rfl (fun k l' o q1 q2 => ?_) (fun k k' l1 l2 o o' q1 q2 q3 q4 hne _ _ => ?_) ⟨fun _ => [], fun k l' o q1 q2 => ?_, by simp, by simp, by simp⟩
  · have h' : (if a.block = l.blk then none else W.cell? a) = some u := h
    split at h'
    · cases h'
    · rename_i hb
      have := cell_lt h'
      exact ⟨fun hh => by rcases hh with hh | hh <;> omega, h'⟩
  · match k, q1, q2 with
    | 0, q1, q2 =>
      simp at q1 q2
      subst q1; subst q2
      refine ⟨fun _ _ => ?_, hO.fits, fun _ => .inr rfl, hO.lt, trivial⟩
      obtain ⟨c, T, fr, g1, g2, g3, g4⟩ := hO.there hm (.inl hown)
      exact ⟨c, T, fr, g1, g2, plainL_is hp g3, fun _ => g4 hown⟩
    | k + 1, q1, q2 => simp at q1
  · have h1 := (List.getElem?_eq_some_iff.1 q1).1
    have h2 := (List.getElem?_eq_some_iff.1 q2).1
    simp at h1 h2
    omega
  · match k, q1, q2 with
    | 0, q1, q2 => simp at q2; subst q2; trivial
    | k + 1, q1, q2 => simp at q1
theorem St.back (I J : Inp) (hst : @St I base w0 r m W) (hl : r[j]? = some l) (hob : m[j]? = some ob) (hown : ob.own = true) {r' : List Loc} {m' : Mem} {c' : List SV}
    (h2 : @St J (fun k => W.heap.size ≤ k ∨ k = l.blk) W r' m' W1) (hr : r'[0]? = some l) (hm : m'[0]? = some ⟨true, c'⟩) (hp : plainL c' = true) : @St I base w0 r (m.set j ⟨true, c'⟩) W1 := by
  have hbase : base l.blk := (@St.obj I _ _ _ _ _ hst j l ob hl hob).own hown
  have hlow2 := @St.low J _ _ _ _ _ h2
  have hlow : Low base W W1 := ⟨hlow2.os, hlow2.tape, hlow2.output, hlow2.size, fun k hk hb => hlow2.block k hk (fun hh => by
    rcases hh with hh | hh
    · omega
    · exact hb (hh ▸ hbase)), hlow2.shape⟩
  have hO := @St.obj J _ _ _ _ _ h2 0 l _ hr hm
  refine @St.wr _ _ _ _ _ I hst _ _ _ _ hl hob hown hlow (fun k hk hne => hlow2.block k hk fun hh => by
    rcases hh with hh | hh
    · omega
    · exact hne hh) _ ⟨fun h1 h3 => ?_, hO.fits, fun _ => hbase, hO.lt, trivial⟩ rfl
  obtain ⟨c, T, fr, g1, g2, g3, g4⟩ := hO.there h1 h3
  exact ⟨c, T, fr, g1, g2, plainL_is hp g3, g4⟩
theorem knows_but {I : Inp} (hst : St base w0 r m W) (hl : r[j]? = some l) (hob : m[j]? = some ob) (hown : ob.own = true) {s : SV} {u : Value} (hs : s.Is r u) : Knows I (inpBut W l.blk) (m.set j ⟨false, []⟩) s u := by
  have hst' := hst.kill1 j
  refine ⟨fun x hx => by subst hx; simpa only [SV.Is] using hs, fun ys hx => ?_, fun z n ys hsl => ?_⟩
  · subst hx
    simp only [SV.Is] at hs
    obtain ⟨us, rfl, hus⟩ := hs
    rw [isL_v_inv hus]
  · obtain ⟨p, c, us, rfl, hus, hlen, hcell⟩ := sl_cells hst' hsl hs
    have hxl := slOf_len hsl
    obtain rfl := isL_v_inv hus
    refine ⟨p, c, rfl, inpL_of (I := inpBut W l.blk) (by simpa using hxl) fun hne => ?_⟩
    rcases hcell with ⟨a, rfl, hc⟩ | ⟨_, h0⟩
    · have hc := hc W (Same.refl _ _)
      obtain ⟨x, hx⟩ : ∃ x, us[0]? = some x := by
        cases us with
        | nil => exact (hne rfl).elim
        | cons x _ => exact ⟨x, rfl⟩
      have h0 := hc 0 x hx
      rw [add_zero_addr] at h0
      have hap : a.block ≠ l.blk := by
        unfold slOf at hsl
        split at hsl
        · rename_i kk o n1 sz
          simp only [SV.Is] at hs
          obtain ⟨lk, cap, hlk, _, _, hu⟩ := hs
          injection hu with hu; injection hu with hu
          subst hu
          split at hsl
          · split at hsl
            · rename_i ob' hob'
              split at hsl
              · injection hsl with hsl; injection hsl with h1 h2
                have hcn : ob'.cells ≠ [] := by
                  intro he
                  rw [he] at h2
                  simp at h2
                  exact hne h2
                rw [List.getElem?_set] at hob'
                by_cases e : j = kk
                · subst e
                  simp at hob'
                  obtain ⟨_, rfl⟩ := hob'
                  exact (hcn rfl).elim
                · rw [if_neg e] at hob'
                  exact fun e2 => hst.sep j kk l lk ob ob' hl hlk hob hob' e hown (.inr hcn) e2.symm
              · cases hsl
            · cases hsl
          · cases hsl
        · rename_i p n1 c1
          obtain ⟨vs, h1, h2⟩ := Option.map_eq_some_iff.1 hsl
          injection h2 with h2 h3
          simp only [SV.Is] at hs
          injection hs with e1 e2 e3
          subst e1
          obtain ⟨hlen2, hat⟩ := inpL_some h1
          have hk : n1 * z ≠ 0 := by
            intro h0
            rw [h0] at hlen2
            rw [List.length_eq_zero_iff.1 hlen2] at h3
            exact hne (by simpa using h3.symm)
          obtain ⟨a', ha', _, hat⟩ := hat hk
          injection ha' with ha'
          subst ha'
          obtain ⟨y, hy⟩ : ∃ y, vs[0]? = some y := by
            cases vs with
            | nil => simp at hlen2; omega
            | cons y _ => exact ⟨y, rfl⟩
          have := hat 0 y hy
          rw [add_zero_addr] at this
          exact fun e => (hst.inp _ _ this).1 (e ▸ (hst.obj j l ob hl hob).own hown)
        · injection hsl with hsl; injection hsl with h1 h2
          exact (hne (by simpa using h2.symm)).elim
        · injection hsl with hsl; injection hsl with h1 h2
          exact (hne (by simpa using h2.symm)).elim
        · cases hsl
      refine ⟨a, rfl, World.cell?_spot h0, fun i u hi => ?_⟩
      show (if (a.add i).block = l.blk then none else W.cell? (a.add i)) = some u
      have e : (a.add i).block = a.block := by unfold Addr.add; split <;> rfl
      rw [if_neg (by rw [e]; exact hap)]
      exact hc i u hi
    · exact (hne h0).elim
theorem knowsL_but {I : Inp} (hst : St base w0 r m W) (hl : r[j]? = some l) (hob : m[j]? = some ob) (hown : ob.own = true) : ∀ {ss : List SV} {us : List Value}, SV.IsL r ss us → KnowsL I (inpBut W l.blk) (m.set j ⟨false, []⟩) ss us
  | [], us, h => by simpa only [SV.IsL, KnowsL] using h
  | s :: ss, us, h => by
    simp only [SV.IsL] at h
    obtain ⟨u, t, rfl, h1, h2⟩ := h
    exact ⟨u, t, rfl, knows_but hst hl hob hown h1, knowsL_but hst hl hob hown h2⟩
end
theorem keep1 [I : Inp] {g : List Nat} (h : I.keep = 1) (h0 : g[0]? = some 0) : KeepOk g := fun k hk => by
  rw [h] at hk
  obtain rfl : k = 0 := by omega
  exact h0
section
variable {P : Program} {f : FuncId} {eff : List FuncId} {N : Nat} {x : XC} {rs : List XR}
/-- A method: it reads and writes the object that its first argument leads to (plain cells), reads what the others lead to, and gives a plain value. -/
theorem Contract.meth [I : Inp] (hF : FnX P f eff N x rs) {G : Inp → List CEntry} (hG : ∀ J, @GOk J P (G J)) (tr : Trans)
    (body : ∀ args m k, tr args m k → ∃ (j o : Nat) (us : List SV) (cs : List SV), args = .ptr j o :: us ∧ m[j]? = some ⟨true, cs⟩ ∧ plainL cs = true ∧ us.length + 1 ≤ N ∧
      ∀ (J : Inp), J.keep = 1 → ∀ (vs : List Value), KnowsL I J (m.set j ⟨false, []⟩) us vs → @evX J P N eff (G J) x (slots (argSlots 0 (.ptr 0 o :: vs.map SV.of))) [⟨true, cs⟩]
        (fun ex e m' => EndsX ex ∧ evR rs e m' fun s => s.plain = true ∧ ∃ c', m'[0]? = some ⟨true, c'⟩ ∧ plainL c' = true ∧ k s (m.set j ⟨true, c'⟩))) : Contract P f false tr := by
  refine ⟨hF.enter, fun args m k base w0 W r vs ht hst ha => ?_⟩
  obtain ⟨j, o, us, cs, rfl, hob, hp, hlen, hev⟩ := body args m k ht
  obtain ⟨l, vs, hl, rfl, ha2⟩ := ptr_inv0 ha
  have hk := knowsL_but (I := I) hst hl hob rfl ha2
  have hvl := IsL_len ha2
  have hargs : @SV.IsL [l] (.ptr 0 o :: vs.map SV.of) (.pointer (some ⟨l.blk, l.off + o, none⟩) :: vs) := by
    simp only [SV.IsL, SV.Is]
    exact ⟨_, _, rfl, ⟨l, rfl, rfl⟩, isL_of vs⟩
  refine (@FnX.calls P f eff N x rs (G (inpBut W l.blk)) (inpBut W l.blk) hF (hG _) _ _ _ _ _ _ _ (hst.one hl hob rfl rfl hp) hargs (by simp; omega) (fun s m' => s.plain = true ∧ ∃ c', m'[0]? = some ⟨true, c'⟩ ∧ plainL c' = true ∧ k s (m.set j ⟨true, c'⟩)) (hev (inpBut W l.blk) rfl vs hk)).mono ?_
  rintro e W1 ⟨s, m', r', u, ⟨hs1, c', hm', hp', hk⟩, rfl, hst1, hs, hkp⟩
  have hr : r'[0]? = some l := hkp 0 l (Nat.lt_succ_self 0) rfl
  exact ⟨s, _, [], u, hk, rfl, by simpa using St.back I (inpBut W l.blk) hst hl hob rfl hst1 hr hm' hp', plain_is hs1 hs, fun h => by cases h⟩
end
end Go.Proofs.Ytibefgdjijmncaa.Sz
