/- Layer 28 (apart): the law ApartSteps, walked. -/
import Derived.Test.YtppndeoiifkkkaaApE
import Derived.Deep.RegionHeldLaw
import Derived.Deep.DeepCutAuto
import Derived.Deep.LoopGhost
import Derived.Deep.Cut
namespace Go.Proofs.Ytppndeoiifkkkaa
open Go.RowKit Go.Proofs.YtppndeoiifkkkaaW.PrintWords
set_option linter.unusedVariables false
theorem far_news {W W' : World} {row : Option Nat} {K : Nat} {xs : List Value} (hg : W.grownBy W' row) (hK : K < W.heap.size) (hne : some K ≠ row) (h : ∀ j u, xs[j]? = some u → W.cell? ((⟨K, 0, none⟩ : Addr).add j) = some u) :
    ∀ j u, xs[j]? = some u → W'.cell? ((⟨K, 0, none⟩ : Addr).add j) = some u := fun j u hj => by
  have hb : ((⟨K, 0, none⟩ : Addr).add j).block = K := by unfold Addr.add; split <;> simp_all
  rw [hg.cell_far _ (by rw [hb]; exact hK) (by rw [hb]; exact hne)]
  exact h j u hj
theorem past_news {W : World} {K : Nat} {xs : List Value} (o : Obj) (h : ∀ j u, xs[j]? = some u → W.cell? ((⟨K, 0, none⟩ : Addr).add j) = some u) :
    ∀ j u, xs[j]? = some u → (W.alloc o).cell? ((⟨K, 0, none⟩ : Addr).add j) = some u := fun j u hj => keep_below ((Below.refl _ _).alloc (Nat.le_refl _) _) (h j u hj)
theorem news_1 {X V : World} {o : Obj} {xs : List Value} {T : TypeId} (hV : V.heap = ((X.alloc o).alloc (.cells xs.toArray T)).heap) : ∀ j u, xs[j]? = some u → V.cell? ((⟨X.heap.size + 1, 0, none⟩ : Addr).add j) = some u := fun j u hj => by
  have h := new_cells (w := X.alloc o) (n := X.heap.size + 1) (T := T) (by simp) j u hj
  unfold World.cell? at h ⊢; rw [hV]; exact h
theorem news_1p {X V : World} {o o3 : Obj} {xs : List Value} {T : TypeId} (hV : V.heap = (((X.alloc o).alloc (.cells xs.toArray T)).alloc o3).heap) : ∀ j u, xs[j]? = some u → V.cell? ((⟨X.heap.size + 1, 0, none⟩ : Addr).add j) = some u := fun j u hj => by
  have h := past_news o3 (new_cells (w := X.alloc o) (n := X.heap.size + 1) (T := T) (by simp)) j u hj
  unfold World.cell? at h ⊢; rw [hV]; exact h
theorem news_2 {X V : World} {o o2 : Obj} {xs : List Value} {T : TypeId} (hV : V.heap = (((X.alloc o).alloc o2).alloc (.cells xs.toArray T)).heap) : ∀ j u, xs[j]? = some u → V.cell? ((⟨X.heap.size + 2, 0, none⟩ : Addr).add j) = some u := fun j u hj => by
  have h := new_cells (w := (X.alloc o).alloc o2) (n := X.heap.size + 2) (T := T) (by simp) j u hj
  unfold World.cell? at h ⊢; rw [hV]; exact h
theorem news_0 {X V : World} {xs : List Value} {T : TypeId} (hV : V.heap = (X.alloc (.cells xs.toArray T)).heap) : ∀ j u, xs[j]? = some u → V.cell? ((⟨X.heap.size, 0, none⟩ : Addr).add j) = some u := fun j u hj => by
  have h := new_cells (w := X) (n := X.heap.size) (T := T) rfl j u hj
  unfold World.cell? at h ⊢; rw [hV]; exact h
theorem far_1 {X V W' : World} {row : Option Nat} {o o3 : Obj} {xs : List Value} {T : TypeId} (hg : V.grownBy W' row) (hr : ∀ k, row = some k → k < X.heap.size) (hV : V.heap = (((X.alloc o).alloc (.cells xs.toArray T)).alloc o3).heap) : ∀ j u, xs[j]? = some u → W'.cell? ((⟨X.heap.size + 1, 0, none⟩ : Addr).add j) = some u :=
  far_news hg (by rw [hV]; simp) (fun h => by have := hr _ h.symm; omega) (news_1p hV)
theorem far_2 {X V W' : World} {row : Option Nat} {o o2 : Obj} {xs : List Value} {T : TypeId} (hg : V.grownBy W' row) (hr : ∀ k, row = some k → k < X.heap.size) (hV : V.heap = (((X.alloc o).alloc o2).alloc (.cells xs.toArray T)).heap) : ∀ j u, xs[j]? = some u → W'.cell? ((⟨X.heap.size + 2, 0, none⟩ : Addr).add j) = some u :=
  far_news hg (by rw [hV]; simp) (fun h => by have := hr _ h.symm; omega) (news_2 hV)
theorem keep_far {V W' : World} {row : Option Nat} {L i : Nat} {u : Value} (hg : V.grownBy W' row) (hr : ∀ k, row = some k → k < L) (h : V.cell? ⟨L, i, none⟩ = some u) : W'.cell? ⟨L, i, none⟩ = some u :=
  (hg.cell_far _ (World.block_lt_of_cell? _ _ h) (fun e => by have := hr _ e.symm; simp at this)).trans h
set_option maxHeartbeats 8000000 in
set_option maxRecDepth 100000 in
theorem apartSteps_w (v vc : Value) (l : List Stp) (c : List Cmd) (t : Int) (w : World) (hl : l.length ≤ 200) (hR : Rd Stp.cs 8 w v l) (hC : Rd Cmd.cs 3 w vc c) (hcm : c.length ≤ 60) :
    Calls Try.prog 3 #[v, .int .i64 t, vc] w fun e w' => e = .returned (.bool true) ∧ Below w.heap.size w w' := by
  obtain ⟨i0, hi, hz0, hz1, hz2⟩ := info_parts Try.infos28
  obtain ⟨A, cap, rfl, hcap, hcell⟩ := hR
  obtain ⟨Ac, capc, rfl, hcapc, hcellc⟩ := hC
  have hl' : decide (200 < (l.length : Int)) = false := by rw [decide_eq_false_iff_not]; omega
  have hc' : decide (60 < (c.length : Int)) = false := by rw [decide_eq_false_iff_not]; omega
  have HCELL := Lib.hid hcell
  have HCELLC := Lib.hid hcellc
  clear hcell hcellc
  go_enter Try.func3, Try.ntmps3
  go_wp2_with fail
  refine (fixed28_c _).mono ?_
  rintro e x1 ⟨rfl, hb1⟩
  go_wp2_with fail
  go_loopg [7, 8, 9, 28] l.length (fun gk va vb nn i wr => ∃ k, k ≤ l.length ∧ gk = l.length - k ∧ i = .int .i64 (k : Nat) ∧ nn = .int .i64 (othF t c (l.take k)).2 ∧ Two w.heap.size w wr va vb (keptL t (l.take k)) (othF t c (l.take k)).1)
  case atStart => exact ⟨0, by omega, by omega, rfl, by rw [List.take_zero, othF_zero]; rfl, by rw [List.take_zero, othF_zero]; exact ⟨own_nil _ _ _ _, own_nil _ _ _ _, fun k h => by simp [Value.ownBlock] at h, hb1, hb1.size⟩⟩
  case round =>
    obtain ⟨k, hk, rfl, rfl, rfl, T⟩ := hrel
    by_cases hlt : k < l.length
    · obtain ⟨g, o, rfl, hat⟩ : ∃ g o, A = some ⟨g, o, none⟩ ∧ ∀ (i : Nat) (x : Stp), l[i]? = some x → RAt Stp.cs w g (o + i * 8) x := by
        rcases HCELL.out with h | h
        · omega
        · exact h
      have hget : l[k]? = some (l[k]'hlt) := List.getElem?_eq_getElem hlt
      have hx := (hat k _ hget).below T.low
      have hs := keptL_succ (t := t) hget
      have ho := fun h => othF_no (t := t) (c := c) hget h
      have hy := fun h h2 => othF_yes (t := t) (c := c) hget h h2
      have hn := fun h => othF_nil (t := t) hget h
      generalize l[k]'hlt = s at hx hs ho hy hn
      have hle := keptL_le t (l.take k)
      have hle1 := (othF_len t c (l.take k)).1
      have hle3 := (othF_len t c (l.take k)).2
      have hle2 : (l.take k).length ≤ 200 := by rw [List.length_take]; omega
      generalize hka : keptL t (l.take k) = la at T hs hle
      have hkd : decide ((k : Int) < (l.length : Int)) = true := by rw [decide_eq_true_iff]; omega
      have hk0 : (0 : Int) ≤ (k : Int) := by omega
      have c0 : wr.cell? ⟨g, o + k * 8, none⟩ = some (.int .i64 s.kind) := hx 0 _ rfl
      have c1 := hx 1 _ rfl
      have c2 := hx 2 _ rfl
      have c3 := hx 3 _ rfl
      have c4 := hx 4 _ rfl
      have c5 := hx 5 _ rfl
      have c6 := hx 6 _ rfl
      have c7 := hx 7 _ rfl
      have HS := Lib.hid hs
      have HO := Lib.hid ho
      have HY := Lib.hid hy
      have HN := Lib.hid hn
      have HK := Lib.hid hka
      clear hget hs ho hy hn hx hat hka
      cases hto : toB s t
      · have hto' : (s.kind == 5) = false ∨ ((s.kind == 5) = true ∧ (s.tenant == t) = false) := by
          unfold toB at hto; cases h1 : s.kind == 5 <;> simp_all
        have R0 := HO.out hto
        have R1 := HS.out
        rw [hto] at R1
        simp only [Bool.false_eq_true, if_false] at R1
        generalize (othF t c (l.take k)).1 = lb at T hle1 R0
        generalize (othF t c (l.take k)).2 = n at hle3 R0
        have H0 := Lib.hid R0
        have H1 := Lib.hid R1
        clear R0 R1 HS HO HY HN
        have b0 : la.length + 1 ≤ maxLen := by unfold maxLen; omega
        have b1 : lb.length + 1 ≤ maxLen := by unfold maxLen; omega
        have b2 : (la.length + 1) * 72 ≤ 140737488355328 := by omega
        have b3 : (lb.length + 1) * 72 ≤ 140737488355328 := by omega
        have hra : ∀ k, u7.ownBlock = some k → k < wr.heap.size := own_lt T.a
        have hrb : ∀ k, u8.ownBlock = some k → k < wr.heap.size := own_lt T.b
        have B0 := Lib.hid b0
        have B1 := Lib.hid b1
        have B2 := Lib.hid b2
        have B3 := Lib.hid b3
        have RA := Lib.hid hra
        have RB := Lib.hid hrb
        have TT := Lib.hid T
        clear b0 b1 b2 b3 hra hrb T
        rcases hto' with h1 | ⟨h1, h2⟩
        · have h1' : (s.kind != 5) = true := by rw [bne, h1]; rfl
          go_wp2_with fail
          go_region_held_law (fun w' => w'.cell? ⟨wr.heap.size, 0, none⟩ = some (.int .i64 s.kind) ∧ w'.cell? ⟨wr.heap.size, 1, none⟩ = some (.int .i64 s.tenant) ∧ w'.cell? ⟨wr.heap.size, 2, none⟩ = some (.int .i64 s.other) ∧ w'.cell? ⟨wr.heap.size, 3, none⟩ = some (.int .i64 s.a) ∧ w'.cell? ⟨wr.heap.size, 4, none⟩ = some (.int .i64 s.b) ∧ w'.cell? ⟨wr.heap.size, 5, none⟩ = some (.int .i64 s.op) ∧ w'.cell? ⟨wr.heap.size, 6, none⟩ = some (.int .i64 s.place) ∧ w'.cell? ⟨wr.heap.size, 7, none⟩ = some (.string s.data)) (first | (go_keep; done) | (go_split_ands; refine ⟨?_, ?_, ?_, ?_, ?_, ?_, ?_, ?_⟩ <;> (first | (refine keep_far hgB RB.out ?_; assumption) | (refine keep_far hgA RA.out ?_; assumption)))) (first | ((refine step_append_lies _ (by rfl) _ _ _ (by rfl) w.heap.size 28 i0 _ 8 72 Try.underlying22 hi hz0 hz1 hz2 rfl (by decide) u7 la.length _ (by rfl) (by first | exact ((TT.out.alloc _).alloc _).a | exact (((TT.out.alloc _).alloc _).alloc _).a) ⟨_, 0, none⟩ 1 1 s.cs (by rfl) rfl (by first | exact news_1 rfl | exact news_1p rfl | exact news_2 rfl) s.one (by decide) B0.out B2.out (by first | exact ((TT.out.alloc _).alloc _).base | exact (((TT.out.alloc _).alloc _).alloc _).base) _ rfl ?_; intro gA capA xA hoA hgA haA hlA; first | (have TA := Two.app_a (H := _) ((TT.out.alloc _).alloc _).drew hoA hgA haA rfl) | (have TA := Two.app_a (H := _) (((TT.out.alloc _).alloc _).alloc _).drew hoA hgA haA rfl) | (have TA := Two.app_a (H := _) ((TT.out.alloc _).alloc _) hoA hgA haA rfl) | (have TA := Two.app_a (H := _) (((TT.out.alloc _).alloc _).alloc _) hoA hgA haA rfl))) | ((refine step_append_lies _ (by rfl) _ _ _ (by rfl) w.heap.size 28 i0 _ 8 72 Try.underlying22 hi hz0 hz1 hz2 rfl (by decide) u8 lb.length _ (by rfl) (by first | exact TA.b | exact (TA.alloc _).b) ⟨_, 0, none⟩ 1 1 s.cs (by rfl) rfl (by first | exact news_0 rfl | exact far_1 hgA RA.out rfl | exact far_2 hgA RA.out rfl) s.one (by decide) B1.out B3.out (by first | exact TA.base | exact (TA.alloc _).base) _ rfl ?_; intro gB capB xB hoB hgB haB hlB; first | (have TB := Two.app_b (H := _) (TA.alloc _).drew hoB hgB haB rfl) | (have TB := Two.app_b (H := _) TA.drew hoB hgB haB rfl) | (have TB := Two.app_b (H := _) (TA.alloc _) hoB hgB haB rfl) | (have TB := Two.app_b (H := _) TA hoB hgB haB rfl))))
          all_goals
            clear hgA hgB hoA hoB
            go_wp2
            go_roundg (l.length - (k + 1))
            case measure => omega
            case rel => exact ⟨k + 1, by omega, rfl, by go_num, by rw [H0.out], by rw [H0.out, H1.out]; exact TB⟩
        · have h1' : (s.kind != 5) = false := by rw [bne, h1]; rfl
          have h2' : (s.tenant != t) = true := by rw [bne, h2]; rfl
          go_wp2_with fail
          go_region_held_law (fun w' => w'.cell? ⟨wr.heap.size, 0, none⟩ = some (.int .i64 s.kind) ∧ w'.cell? ⟨wr.heap.size, 1, none⟩ = some (.int .i64 s.tenant) ∧ w'.cell? ⟨wr.heap.size, 2, none⟩ = some (.int .i64 s.other) ∧ w'.cell? ⟨wr.heap.size, 3, none⟩ = some (.int .i64 s.a) ∧ w'.cell? ⟨wr.heap.size, 4, none⟩ = some (.int .i64 s.b) ∧ w'.cell? ⟨wr.heap.size, 5, none⟩ = some (.int .i64 s.op) ∧ w'.cell? ⟨wr.heap.size, 6, none⟩ = some (.int .i64 s.place) ∧ w'.cell? ⟨wr.heap.size, 7, none⟩ = some (.string s.data)) (first | (go_keep; done) | (go_split_ands; refine ⟨?_, ?_, ?_, ?_, ?_, ?_, ?_, ?_⟩ <;> (first | (refine keep_far hgB RB.out ?_; assumption) | (refine keep_far hgA RA.out ?_; assumption)))) (first | ((refine step_append_lies _ (by rfl) _ _ _ (by rfl) w.heap.size 28 i0 _ 8 72 Try.underlying22 hi hz0 hz1 hz2 rfl (by decide) u7 la.length _ (by rfl) (by first | exact ((TT.out.alloc _).alloc _).a | exact (((TT.out.alloc _).alloc _).alloc _).a) ⟨_, 0, none⟩ 1 1 s.cs (by rfl) rfl (by first | exact news_1 rfl | exact news_1p rfl | exact news_2 rfl) s.one (by decide) B0.out B2.out (by first | exact ((TT.out.alloc _).alloc _).base | exact (((TT.out.alloc _).alloc _).alloc _).base) _ rfl ?_; intro gA capA xA hoA hgA haA hlA; first | (have TA := Two.app_a (H := _) ((TT.out.alloc _).alloc _).drew hoA hgA haA rfl) | (have TA := Two.app_a (H := _) (((TT.out.alloc _).alloc _).alloc _).drew hoA hgA haA rfl) | (have TA := Two.app_a (H := _) ((TT.out.alloc _).alloc _) hoA hgA haA rfl) | (have TA := Two.app_a (H := _) (((TT.out.alloc _).alloc _).alloc _) hoA hgA haA rfl))) | ((refine step_append_lies _ (by rfl) _ _ _ (by rfl) w.heap.size 28 i0 _ 8 72 Try.underlying22 hi hz0 hz1 hz2 rfl (by decide) u8 lb.length _ (by rfl) (by first | exact TA.b | exact (TA.alloc _).b) ⟨_, 0, none⟩ 1 1 s.cs (by rfl) rfl (by first | exact news_0 rfl | exact far_1 hgA RA.out rfl | exact far_2 hgA RA.out rfl) s.one (by decide) B1.out B3.out (by first | exact TA.base | exact (TA.alloc _).base) _ rfl ?_; intro gB capB xB hoB hgB haB hlB; first | (have TB := Two.app_b (H := _) (TA.alloc _).drew hoB hgB haB rfl) | (have TB := Two.app_b (H := _) TA.drew hoB hgB haB rfl) | (have TB := Two.app_b (H := _) (TA.alloc _) hoB hgB haB rfl) | (have TB := Two.app_b (H := _) TA hoB hgB haB rfl))))
          all_goals
            clear hgA hgB hoA hoB
            go_wp2
            go_roundg (l.length - (k + 1))
            case measure => omega
            case rel => exact ⟨k + 1, by omega, rfl, by go_num, by rw [H0.out], by rw [H0.out, H1.out]; exact TB⟩
      · have h1 : (s.kind == 5) = true := by unfold toB at hto; cases h1 : s.kind == 5 <;> simp_all
        have h2 : (s.tenant == t) = true := by unfold toB at hto; cases h1 : s.tenant == t <;> simp_all
        have h1' : (s.kind != 5) = false := by rw [bne, h1]; rfl
        have h2' : (s.tenant != t) = false := by rw [bne, h2]; rfl
        have R1 := HS.out
        rw [hto] at R1
        simp only [if_true, List.append_nil] at R1
        rcases Nat.eq_zero_or_pos c.length with hc0 | hc0
        · obtain rfl : c = [] := List.length_eq_zero_iff.1 hc0
          have R0 := HN.out hto
          have H0 := Lib.hid R0
          have H1 := Lib.hid R1
          have TT := Lib.hid (T.alloc (.cells #[.int .i64 s.kind, .int .i64 s.tenant, .int .i64 s.other, .int .i64 s.a, .int .i64 s.b, .int .i64 s.op, .int .i64 s.place, .string s.data] 28))
          clear R0 R1 HS HO HY HN T h1 h2
          go_wp2
          go_roundg (l.length - (k + 1))
          case measure => omega
          case rel => exact ⟨k + 1, by omega, rfl, by go_num, by rw [H0.out], by rw [H0.out, H1.out]; exact TT.out⟩
        · have R0 := HY.out hto hc0
          obtain ⟨gc, oc, rfl, hatc⟩ : ∃ g o, Ac = some ⟨g, o, none⟩ ∧ ∀ (i : Nat) (x : Cmd), c[i]? = some x → RAt Cmd.cs w g (o + i * 3) x := by
            rcases HCELLC.out with h | h
            · omega
            · exact h
          generalize (othF t c (l.take k)).1 = lb at T hle1 R0
          generalize (othF t c (l.take k)).2 = n at hle3 R0
          have hcg := (hatc _ _ (cmdAt_get hc0 n)).below T.low
          have hmod : n % c.length < c.length := Nat.mod_lt _ hc0
          generalize cmdAt c n = x at hcg R0
          have zz0 : (0 : Int) ≤ (n : Int) % (c.length : Int) := Int.emod_nonneg _ (by omega)
          have zz1 : (n : Int) % (c.length : Int) < (c.length : Int) := Int.emod_lt_of_pos _ (by omega)
          have q0 : wr.cell? ⟨gc, oc + n % c.length * 3, none⟩ = some (.int .i64 x.op) := hcg 0 _ rfl
          have q1 := hcg 1 _ rfl
          have q2 := hcg 2 _ rfl
          have hgcl : gc < wr.heap.size := World.block_lt_of_cell? _ _ q0
          have hcp : (0 : Int) < (c.length : Int) := by omega
          have hcpd : decide ((0 : Int) < (c.length : Int)) = true := by rw [decide_eq_true_iff]; omega
          have hn0 : (0 : Int) ≤ (n : Int) := by omega
          have hnl : (n : Int) ≤ 200 := by omega
          have H0 := Lib.hid R0
          have H1 := Lib.hid R1
          have b1 : lb.length + 1 ≤ maxLen := by unfold maxLen; omega
          have b3 : (lb.length + 1) * 72 ≤ 140737488355328 := by omega
          have TL := T.alloc (.cells #[.int .i64 s.kind, .int .i64 s.tenant, .int .i64 s.other, .int .i64 s.a, .int .i64 s.b, .int .i64 x.op, .int .i64 x.place, .string x.data] 28)
          have TT := Lib.hid TL
          clear R0 R1 HS HO HY HN T TL h1 h2 hcg hmod hatc HCELLC
          go_wp2_with (at_builtin; refine wpList_append_lies _ rfl _ _ 22 rfl w.heap.size 28 i0 _ 8 72 Try.underlying22 hi hz0 hz1 hz2 rfl (by decide) u8 lb.length _ rfl (TT.out.alloc _).b ⟨wr.heap.size + 1, 0, none⟩ 1 1 (s.with x).cs rfl rfl ?c1 (s.with x).one (by decide) b1 b3 (TT.out.alloc _).base _ rfl ?_)
          case c1 => exact news_1 rfl
          intro gB capB xB hoB hgB haB hlB
          have TB := Two.app_b (H := _) (TT.out.alloc _) hoB hgB haB (by simp)
          clear hoB hgB haB hlB
          go_wp2
          go_roundg (l.length - (k + 1))
          case measure => omega
          case rel => exact ⟨k + 1, by omega, rfl, by go_num, by rw [H0.out]; go_num, by rw [H0.out, H1.out]; exact TB⟩
    · obtain rfl : k = l.length := by omega
      have hRw : Rd Stp.cs 8 w (.slice A l.length cap) l := ⟨A, cap, rfl, hcap, HCELL.out⟩
      have hCw : Rd Cmd.cs 3 w (.slice Ac c.length capc) c := ⟨Ac, capc, rfl, hcapc, HCELLC.out⟩
      rw [List.take_length] at T
      have hle := keptL_le t l
      have hle1 := (othF_len t c l).1
      have HRW := Lib.hid hRw
      have HCW := Lib.hid hCw
      have T0 := Lib.hid T
      obtain ⟨Aa, ca, ha⟩ := own_slice T.a
      obtain ⟨Ab, cb, hb⟩ := own_slice T.b
      subst ha
      subst hb
      clear hRw hCw T HCELL HCELLC
      go_wp2_with fail
      refine (without_c _ l t _ hl (HRW.out.below T0.out.low)).mono ?_
      rintro e y1 ⟨v1, rfl, hown1, hy1⟩
      have T1 := Lib.hid (T0.out.below hy1)
      obtain ⟨A1, c1, rfl⟩ := own_slice hown1
      have O1 := Lib.hid hown1
      clear hown1
      go_wp2_with fail
      refine (swappedAll_c _ _ l c t _ hl (HRW.out.below T1.out.low) (HCW.out.below T1.out.low) hcm).mono ?_
      rintro e y2 ⟨v2, rfl, hown2, hy2⟩
      have T2 := Lib.hid (T1.out.below hy2)
      obtain ⟨A2, c2, rfl⟩ := own_slice hown2
      have O2 := Lib.hid (Rd_of_own Stp.cs Stp.len hown2 rfl)
      have O1' := Lib.hid (Rd_of_own Stp.cs Stp.len (own_below O1.out hy2) rfl)
      have P1 := Lib.hid (Rd_of_own Stp.cs Stp.len T2.out.a rfl)
      have P2 := Lib.hid (Rd_of_own Stp.cs Stp.len T2.out.b rfl)
      have hlow := T2.out.low
      clear hown2 O1 T1 T0 hy1 hy2 T2
      generalize keptL t l = la at *
      generalize (othF t c l).1 = lb at *
      go_wp2_with fail
      go_loopg [88] la.length (fun gk i wr => ∃ k, k ≤ la.length ∧ gk = la.length - k ∧ i = .int .i64 (k : Nat) ∧ Below y2.heap.size y2 wr)
      case atStart => exact ⟨0, by omega, by omega, rfl, Below.refl _ _⟩
      case round =>
        obtain ⟨k, hk, rfl, rfl, hbr⟩ := hrel
        by_cases hlt : k < la.length
        · obtain ⟨_, _, e1, _, h1⟩ := O1'.out
          obtain ⟨_, _, e2, _, h2⟩ := P1.out
          injection e1 with e1 _ e1c
          injection e2 with e2 _ e2c
          subst e1
          subst e1c
          subst e2
          subst e2c
          obtain ⟨ga, oa, rfl, hata⟩ : ∃ g o, A1 = some ⟨g, o, none⟩ ∧ ∀ (i : Nat) (x : Stp), la[i]? = some x → RAt Stp.cs y2 g (o + i * 8) x := by
            rcases h1 with h | h
            · omega
            · exact h
          obtain ⟨gb, ob, rfl, hatb⟩ : ∃ g o, Aa = some ⟨g, o, none⟩ ∧ ∀ (i : Nat) (x : Stp), la[i]? = some x → RAt Stp.cs y2 g (o + i * 8) x := by
            rcases h2 with h | h
            · omega
            · exact h
          have hget : la[k]? = some (la[k]'hlt) := List.getElem?_eq_getElem hlt
          have hxa := (hata k _ hget).below hbr
          have hxb := (hatb k _ hget).below hbr
          generalize la[k]'hlt = s at hxa hxb
          have p0 : wr.cell? ⟨ga, oa + k * 8, none⟩ = some (.int .i64 s.kind) := hxa 0 _ rfl
          have p1 := hxa 1 _ rfl
          have p2 := hxa 2 _ rfl
          have p3 := hxa 3 _ rfl
          have p4 := hxa 4 _ rfl
          have p5 := hxa 5 _ rfl
          have p6 := hxa 6 _ rfl
          have p7 := hxa 7 _ rfl
          have r0 : wr.cell? ⟨gb, ob + k * 8, none⟩ = some (.int .i64 s.kind) := hxb 0 _ rfl
          have r1 := hxb 1 _ rfl
          have r2 := hxb 2 _ rfl
          have r3 := hxb 3 _ rfl
          have r4 := hxb 4 _ rfl
          have r5 := hxb 5 _ rfl
          have r6 := hxb 6 _ rfl
          have r7 := hxb 7 _ rfl
          have hkd : decide ((k : Int) < (la.length : Int)) = true := by rw [decide_eq_true_iff]; omega
          have hk0 : (0 : Int) ≤ (k : Int) := by omega
          have hkl : (k : Int) < (la.length : Int) := by omega
          clear h1 h2 hata hatb hget hxa hxb
          go_wp2_with fail
          go_quiet (fail)
          go_wp2
          go_roundg (la.length - (k + 1))
          case measure => omega
          case rel => exact ⟨k + 1, by omega, rfl, by go_num, below_drewN hbr _⟩
        · obtain rfl : k = la.length := by omega
          have hkd : decide ((la.length : Int) < (la.length : Int)) = false := by rw [decide_eq_false_iff_not]; omega
          go_wp2_with fail
          go_loopg [103] lb.length (fun gk i wr => ∃ k, k ≤ lb.length ∧ gk = lb.length - k ∧ i = .int .i64 (k : Nat) ∧ Below y2.heap.size y2 wr)
          case atStart => exact ⟨0, by omega, by omega, rfl, hbr⟩
          case round =>
            obtain ⟨k, hk, rfl, rfl, hbr⟩ := hrel
            by_cases hlt : k < lb.length
            · obtain ⟨_, _, e1, _, h1⟩ := O2.out
              obtain ⟨_, _, e2, _, h2⟩ := P2.out
              injection e1 with e1 _ e1c
              injection e2 with e2 _ e2c
              subst e1
              subst e1c
              subst e2
              subst e2c
              obtain ⟨ga, oa, rfl, hata⟩ : ∃ g o, A2 = some ⟨g, o, none⟩ ∧ ∀ (i : Nat) (x : Stp), lb[i]? = some x → RAt Stp.cs y2 g (o + i * 8) x := by
                rcases h1 with h | h
                · omega
                · exact h
              obtain ⟨gb, ob, rfl, hatb⟩ : ∃ g o, Ab = some ⟨g, o, none⟩ ∧ ∀ (i : Nat) (x : Stp), lb[i]? = some x → RAt Stp.cs y2 g (o + i * 8) x := by
                rcases h2 with h | h
                · omega
                · exact h
              have hget : lb[k]? = some (lb[k]'hlt) := List.getElem?_eq_getElem hlt
              have hxa := (hata k _ hget).below hbr
              have hxb := (hatb k _ hget).below hbr
              generalize lb[k]'hlt = s at hxa hxb
              have p0 : wr.cell? ⟨ga, oa + k * 8, none⟩ = some (.int .i64 s.kind) := hxa 0 _ rfl
              have p1 := hxa 1 _ rfl
              have p2 := hxa 2 _ rfl
              have p3 := hxa 3 _ rfl
              have p4 := hxa 4 _ rfl
              have p5 := hxa 5 _ rfl
              have p6 := hxa 6 _ rfl
              have p7 := hxa 7 _ rfl
              have r0 : wr.cell? ⟨gb, ob + k * 8, none⟩ = some (.int .i64 s.kind) := hxb 0 _ rfl
              have r1 := hxb 1 _ rfl
              have r2 := hxb 2 _ rfl
              have r3 := hxb 3 _ rfl
              have r4 := hxb 4 _ rfl
              have r5 := hxb 5 _ rfl
              have r6 := hxb 6 _ rfl
              have r7 := hxb 7 _ rfl
              have hkd : decide ((k : Int) < (lb.length : Int)) = true := by rw [decide_eq_true_iff]; omega
              have hk0 : (0 : Int) ≤ (k : Int) := by omega
              have hkl : (k : Int) < (lb.length : Int) := by omega
              clear h1 h2 hata hatb hget hxa hxb
              go_wp2_with fail
              go_quiet (fail)
              go_wp2
              go_roundg (lb.length - (k + 1))
              case measure => omega
              case rel => exact ⟨k + 1, by omega, rfl, by go_num, below_drewN hbr _⟩
            · obtain rfl : k = lb.length := by omega
              have hkd : decide ((lb.length : Int) < (lb.length : Int)) = false := by rw [decide_eq_false_iff_not]; omega
              go_wp2
              go_ret
              exact ⟨rfl, hlow.trans (hbr.mono hlow.size)⟩
theorem apartSteps_big1 (A Ac : Option Addr) (n cap m capm : Nat) (t : Int) (w : World) (hn : ¬ n ≤ 200) :
    Calls Try.prog 3 #[.slice A n cap, .int .i64 t, .slice Ac m capm] w fun e w' => e = .returned (.bool true) ∧ Below w.heap.size w w' := by
  have hn' : decide (200 < (n : Int)) = true := by rw [decide_eq_true_iff]; omega
  clear hn
  go_enter Try.func3, Try.ntmps3
  go_wp2_with fail
  refine (fixed28_c _).mono ?_
  rintro e x1 ⟨rfl, hb1⟩
  go_wp2
  go_ret
  exact ⟨rfl, hb1⟩
theorem apartSteps_big2 (A Ac : Option Addr) (n cap m capm : Nat) (t : Int) (w : World) (hn : n ≤ 200) (hm : ¬ m ≤ 60) :
    Calls Try.prog 3 #[.slice A n cap, .int .i64 t, .slice Ac m capm] w fun e w' => e = .returned (.bool true) ∧ Below w.heap.size w w' := by
  have hn' : decide (200 < (n : Int)) = false := by rw [decide_eq_false_iff_not]; omega
  have hm' : decide (60 < (m : Int)) = true := by rw [decide_eq_true_iff]; omega
  clear hn hm
  go_enter Try.func3, Try.ntmps3
  go_wp2_with fail
  refine (fixed28_c _).mono ?_
  rintro e x1 ⟨rfl, hb1⟩
  go_wp2
  go_ret
  exact ⟨rfl, hb1⟩
end Go.Proofs.Ytppndeoiifkkkaa
