/- Layer 13 (buffer): the law BufferPlays, walked. -/
import Derived.Test.YtppndeoiifkkkaaBufG
import Derived.Deep.DeepCutAuto
import Derived.Deep.LoopGhost
import Derived.Deep.Cut
namespace Go.Proofs.Ytppndeoiifkkkaa
open Go.RowKit Go.Proofs.YtppndeoiifkkkaaW.PrintWords
set_option linter.unusedVariables false
structure Act1 where
  kind : Int
  c : Chg
def ActAt (w : World) (g o : Nat) (a : Act1) : Prop := w.cell? ⟨g, o, none⟩ = some (.int .u8 a.kind) ∧ w.cell? ⟨g, o + 1, none⟩ = some (.int .i64 a.c.place) ∧ w.cell? ⟨g, o + 2, none⟩ = some (.int .i64 a.c.kind) ∧ w.cell? ⟨g, o + 3, none⟩ = some (.string a.c.data) ∧ 0 ≤ a.kind ∧ a.kind ≤ 255
theorem ActAt.below {w w' : World} {g o : Nat} {c : Act1} (h : ActAt w g o c) (hb : Below w.heap.size w w') : ActAt w' g o c := ⟨keep_below hb h.1, keep_below hb h.2.1, keep_below hb h.2.2.1, keep_below hb h.2.2.2.1, h.2.2.2.2⟩
/-- What holds at the head of a round. -/
structure PlayRel (w : World) (B : Nat) (v : Value) (wr : World) (r : Nat → Chg) (f m : Nat) : Prop where
  buf : BufAt wr B r f m
  row : QRow wr (B + 1) 48 3 v m (chgCells (rowOf r f m))
  below : Below w.heap.size w wr
  lt : w.heap.size ≤ B
theorem PlayRel.move {w wr wc : World} {B : Nat} {v : Value} {r : Nat → Chg} {f m : Nat} (R : PlayRel w B v wr r f m) (hb : Below wr.heap.size wr wc) : PlayRel w B v wc r f m :=
  ⟨R.buf.below hb, q_move R.row (fun k hk => hb.block k (q_lt R.row k hk)), R.below.trans (hb.mono R.below.size), R.lt⟩
set_option maxHeartbeats 4000000 in
set_option maxRecDepth 100000 in
theorem bufferPlays_w (g0 o0 n cap : Nat) (acts : List Act1) (place : Int) (w : World) (hlen : acts.length = n) (hn : n ≤ 200) (hacts : ∀ k x, acts[k]? = some x → ActAt w g0 (o0 + k * 4) x) :
    Calls Try.prog 6 #[.slice (some ⟨g0, o0, none⟩) n cap, .int .i64 place] w fun e w' => e = .returned (.bool true) ∧ Below w.heap.size w w' := by
  obtain ⟨i0, hi, hz0, hz1, hz2⟩ := info_parts Try.infos48
  have HA := Lib.hid hacts
  clear hacts
  go_enter Try.func6, Try.ntmps6
  go_wp2_with fail
  refine (fixed13_c _).mono ?_
  rintro e x1 ⟨rfl, hb1⟩
  have hn' : decide (200 < (n : Int)) = false := by rw [decide_eq_false_iff_not]; omega
  have hnn : (n : Int) ≤ 200 := by omega
  go_wp2_with fail
  refine (new_c _).mono ?_
  rintro e x2 ⟨rfl, B2, hb2⟩
  have hbx2 : Below w.heap.size w x2 := hb1.trans (hb2.mono hb1.size)
  have hs1 := hb1.size
  generalize hB : x1.heap.size = B at *
  clear hB hb1 hb2
  go_wp2_with fail
  go_loopg [6, 27] n (fun gk v i wr => ∃ k r f m, k ≤ n ∧ gk = n - k ∧ i = .int .i64 (k : Nat) ∧ PlayRel w B v wr r f m)
  case atStart => exact ⟨0, _, 0, 0, by omega, by omega, rfl, B2, q_of_own (own_nil _ _ _ _), hbx2, hs1⟩
  case round =>
    obtain ⟨k, r, f, m, hk, rfl, rfl, R⟩ := hrel
    by_cases hlt : k < n
    · have hget : acts[k]? = some (acts[k]'(by omega)) := List.getElem?_eq_getElem (by omega)
      have hact := (HA.out k _ hget).below R.below
      generalize acts[k]'(by omega) = a at hact
      obtain ⟨ka, c⟩ := a
      obtain ⟨p, kd, d⟩ := c
      obtain ⟨a0, a1, a2, a3, a4, a5⟩ := hact
      dsimp only at a0 a1 a2 a3 a4 a5
      have hk0 : (0 : Int) ≤ (k : Int) := by omega
      have hkd : decide ((k : Int) < (n : Int)) = true := by rw [decide_eq_true_iff]; omega
      clear hget
      have hm4 := R.buf.2.2
      obtain ⟨A, c0, rfl, hc0⟩ := q_slice R.row
      go_upto_if 34 with fail
      go_cut [6] (fun v wc => ∃ r' f' m', PlayRel w B v wc r' f' m')
      case first =>
        have hsz := R.below.size
        have hBl : B < wr.heap.size := blk_lt R.buf.1
        by_cases hk2 : ka % 2 = 0
        · have hk2' : (ka % 2 == 0) = true := by rw [beq_iff_eq]; exact hk2
          clear hk2
          have RA := R.move ((Below.refl wr.heap.size wr).alloc (Nat.le_refl _) (.cells #[.int .u8 ka, .int .i64 p, .int .i64 kd, .string d] 50))
          by_cases hc : chk3 p kd d.size = 0
          · have hc' : (chk3 p kd d.size == 0) = true := by rw [beq_iff_eq]; exact hc
            by_cases h4 : m = 4
            · subst h4
              go_wp2_with fail
              refine (refCheck_c p kd d _).mono ?_
              rintro e w' ⟨rfl, rfl⟩
              go_wp2_with fail
              refine (put_full B f r p kd d _ RA.buf hc).mono ?_
              rintro e w3 ⟨rfl, hb3⟩
              go_wp2
              go_meet
              exact ⟨r, f, 4, RA.move hb3⟩
            · have h4' : ((m : Int) == 4) = false := by rw [beq_eq_false_iff_ne]; omega
              have H4 := Lib.hid h4
              clear h4
              go_wp2_with fail
              refine (refCheck_c p kd d _).mono ?_
              rintro e w' ⟨rfl, rfl⟩
              go_wp2_with fail
              refine (put_ok B f m r p kd d _ RA.buf hc (by have := H4.out; omega)).mono ?_
              rintro e w3 ⟨rfl, g3, B3⟩
              have hc0' : (0 != chk3 p kd d.size) = false := by rw [bne, hc]; rfl
              have hblk : w3.heap[wr.heap.size]? = some (.cells #[.int .u8 ka, .int .i64 p, .int .i64 kd, .string d] 50 (0, 0)) := (g3.block wr.heap.size (by simp) (by intro h; injection h with h; omega)).trans (heap_alloc_new _ _)
              have z1 : w3.cell? ⟨wr.heap.size, 1, none⟩ = some (.int .i64 p) := by rw [cell_of_row _ _ _ _ _ _ hblk]; rfl
              have z2 : w3.cell? ⟨wr.heap.size, 2, none⟩ = some (.int .i64 kd) := by rw [cell_of_row _ _ _ _ _ _ hblk]; rfl
              have z3 : w3.cell? ⟨wr.heap.size, 3, none⟩ = some (.string d) := by rw [cell_of_row _ _ _ _ _ _ hblk]; rfl
              have hs3 := g3.size
              simp at hs3
              have q3 : QRow w3 (B + 1) 48 3 (.slice A m c0) m (chgCells (rowOf r f m)) := q_move RA.row (fun k hk => g3.block k (q_lt RA.row k hk) (by
                intro h; injection h with h
                have := (q_typed RA.row k hk).1; omega))
              have b3 : Below w.heap.size w w3 := RA.below.grown g3 RA.below.size (fun k hk => by injection hk with hk; have := R.lt; omega)
              go_wp2_with (at_builtin; refine wpList_append_q _ rfl _ _ 46 rfl (B + 1) 48 i0 _ 3 32 Try.underlying46 hi hz0 hz1 hz2 rfl (by decide) _ _ _ rfl (q_move q3 (fun k hk => Below.heap_alloc _ _ _ (q_lt q3 k hk))) ⟨w3.heap.size, 0, none⟩ 1 1 [.int .i64 p, .int .i64 kd, .string d] rfl rfl ?c1 ?c2 (by omega) ?c3 ?c4 ?c5 ?_)
              case c1 => exact new_three rfl
              case c2 => intro u hu; simp at hu; rcases hu with rfl | rfl | rfl <;> rfl
              case c3 => unfold maxLen; omega
              case c4 => omega
              case c5 => simp; omega
              intro v' w1 hq' hg'
              have hown : ∀ k, (Value.slice A m c0).ownBlock = some k → B + 1 ≤ k := fun k hk => (q_typed q3 k hk).1
              have R4 : PlayRel w B v' w1 (upd r ((f + m) % 4) ⟨p, kd, d⟩) f (m + 1) := by
                refine ⟨B3.of_block ?_, ?_, ?_, R.lt⟩
                · rw [hg'.block B (by simp; omega) (by intro h; have := hown B h.symm; omega), Below.heap_alloc _ _ _ (by omega)]
                · rw [rowOf_put R.buf.2.1 (by have := H4.out; omega), chgCells_app]
                  exact hq'
                · exact (b3.alloc b3.size _).grown hg' (by simp; have := b3.size; omega) (fun k hk => by have := hown k hk; have := R.lt; omega)
              clear hq' hg' q3 z1 z2 z3 hblk B3 g3
              go_wp2
              go_meet
              exact ⟨_, _, _, R4⟩
          · have hc' : (chk3 p kd d.size == 0) = false := by rw [beq_eq_false_iff_ne]; exact hc
            have hc2 : (chk3 p kd d.size != chk3 p kd d.size) = false := by simp
            go_wp2_with fail
            refine (refCheck_c p kd d _).mono ?_
            rintro e w' ⟨rfl, rfl⟩
            go_wp2_with fail
            refine (put_bad B f m r p kd d _ RA.buf hc).mono ?_
            rintro e w3 ⟨rfl, hb3⟩
            go_wp2
            go_meet
            exact ⟨r, f, m, RA.move hb3⟩
        · have hk2' : (ka % 2 == 0) = false := by rw [beq_eq_false_iff_ne]; exact hk2
          clear hk2
          have RA := R.move ((Below.refl wr.heap.size wr).alloc (Nat.le_refl _) (.cells #[.int .u8 ka, .int .i64 p, .int .i64 kd, .string d] 50))
          by_cases hm0 : m = 0
          · subst hm0
            obtain ⟨A2, c2, hrun, hq2⟩ := q_cut RA.row (rowOf_len _ _ _) hi hz1 0 (by omega)
            have hrun' : ∀ W : World, (Instr.slice 46 (.slice A 0 c0) (some (.int .i64 0)) none none).run Try.prog W = .ok (.slice A2 0 c2) W := hrun
            have HQ := Lib.hid hq2
            clear hrun hq2
            go_wp2_with fail
            refine (drop_no B f r _ RA.buf).mono ?_
            rintro e w3 ⟨rfl, rfl⟩
            go_wp2
            go_meet
            exact ⟨r, f, 0, RA.buf, HQ.out, RA.below, RA.lt⟩
          · obtain ⟨A2, c2, hrun, hq2⟩ := q_cut RA.row (rowOf_len _ _ _) hi hz1 1 (by omega)
            have hrun' : ∀ W : World, (Instr.slice 46 (.slice A m c0) (some (.int .i64 1)) none none).run Try.prog W = .ok (.slice A2 (m - 1) c2) W := hrun
            have fin : ∀ (w3 : World), (wr.alloc (.cells #[.int .u8 ka, .int .i64 p, .int .i64 kd, .string d] 50)).grownBy w3 (some B) → BufAt w3 B (upd r f Chg.zero) ((f + 1) % 4) (m - 1) → PlayRel w B (.slice A2 (m - 1) c2) w3 (upd r f Chg.zero) ((f + 1) % 4) (m - 1) := by
              intro w3 g3 B3
              refine ⟨B3, ?_, RA.below.grown g3 RA.below.size (fun k hk => by injection hk with hk; have := R.lt; omega), R.lt⟩
              rw [rowOf_drop R.buf.2.1 (by omega) hm4]
              exact q_move hq2 (fun k hk => g3.block k (q_lt hq2 k hk) (by
                intro h; injection h with h
                have := (q_typed hq2 k hk).1; omega))
            have FIN := Lib.hid fin
            clear hrun hq2 fin
            by_cases hm1 : m = 1
            · subst hm1
              go_wp2_with fail
              refine (drop_ok B f 1 r _ RA.buf (by omega)).mono ?_
              rintro e w3 ⟨rfl, g3, B3⟩
              have R4 := FIN.out w3 g3 B3
              clear g3 B3
              go_wp2
              go_meet
              exact ⟨_, _, _, R4⟩
            · have hm2 : (2 : Int) ≤ (m : Int) := by omega
              have hd1 : decide ((0 : Int) < (m : Int)) = true := by rw [decide_eq_true_iff]; omega
              have hd2 : decide (0 < m) = true := by rw [decide_eq_true_iff]; omega
              have hd3 : 0 < m := by omega
              have HM := Lib.hid hm0
              have HM1 := Lib.hid hm1
              clear hm0 hm1
              go_wp2_with fail
              refine (drop_ok B f m r _ RA.buf (by have := HM.out; omega)).mono ?_
              rintro e w3 ⟨rfl, g3, B3⟩
              have R4 := FIN.out w3 g3 B3
              clear g3 B3
              go_wp2
              go_meet
              exact ⟨_, _, _, R4⟩
      case rest =>
        obtain ⟨r', f', m', R'⟩ := hcut
        clear R a0 a1 a2 a3 a4 a5 hm4 hc0
        have hm4 := R'.buf.2.2
        have hf4 := R'.buf.2.1
        have hrl := rowOf_len r' f' m'
        obtain ⟨A', cc, hv, hcc, hcells⟩ := rd_of_q (by rw [hrl]; exact R'.row)
        rw [hrl] at hv hcc hcells
        subst hv
        have hsz := R'.below.size
        by_cases hm0 : m' = 0
        · subst hm0
          clear hcells
          go_wp2_with fail
          have F := first_no B f' r' _ R'.buf
          rw [show Chg.zero.val = .agg #[.int .i64 0, .int .i64 0, .string ByteArray.empty] from rfl] at F
          refine F.mono ?_
          rintro e y1 ⟨rfl, hy1⟩
          have R1 := R'.move hy1
          go_wp2_with fail
          have R2 := R1.move ((Below.refl y1.heap.size y1).alloc (Nat.le_refl _) (.cells #[.int .i64 0, .int .i64 0, .string ByteArray.empty] 48))
          refine (all_c B f' 0 r' _ R2.buf).mono ?_
          rintro e y2 ⟨va, rfl, hown, hy2⟩
          have R3 := R2.move hy2
          obtain ⟨Aa, ca, rfl, _, _⟩ := rd_of_own hown (rowOf_len _ _ _)
          rw [rowOf_len]
          have ql : ∀ k, Calls Try.prog 39 #[.pointer (some ⟨B, 0, none⟩)] (y2.drewN k) fun e w'' => e = .returned (.int .i64 0) ∧ ∃ j, w'' = y2.drewN j := fun k => (len_c B f' 0 r' (y2.drewN k) R3.buf).mono fun _ _ ⟨a, b⟩ => ⟨a, k, b.symm⟩
          have qf : ∀ k, Calls Try.prog 40 #[.pointer (some ⟨B, 0, none⟩)] (y2.drewN k) fun e w'' => e = .returned (.bool false) ∧ ∃ j, w'' = y2.drewN j := fun k => (full_c B f' 0 r' (y2.drewN k) R3.buf).mono fun _ _ ⟨a, b⟩ => ⟨a.trans (ret_bool (by simp)), k, b.symm⟩
          have QL := Lib.hid ql
          have QF := Lib.hid qf
          clear ql qf
          go_wp2_with fail
          go_quiet (first | (go_at_call 39; exact QL.out _) | (go_at_call 40; exact QF.out _))
          clear QL QF
          obtain ⟨y3, hy3⟩ : ∃ y3, y3 = y2.drewN nq := ⟨_, rfl⟩
          rw [← hy3]
          have hb3 : Below y2.heap.size y2 y3 := by rw [hy3]; exact below_drewN (Below.refl _ _) _
          have R4 := R3.move hb3
          clear hb3 hy3 hown R3 R2 R1 hy1 hy2 F
          go_wp2_with fail
          refine wp_loop_rounds 1 ?_
          rw [rounds_succ]
          go_wp2_with fail
          have R5 := R4.move ((Below.refl y3.heap.size y3).alloc (Nat.le_refl _) (.cells #[.int .i64 0, .int .i64 0, .string ByteArray.empty] 48))
          have LL := last_c B f' 0 r' place _ R5.buf
          rw [show lastV (lastOf r' f' place 0) = .tuple #[.agg #[.int .i64 0, .int .i64 0, .string ByteArray.empty], .bool false] from rfl] at LL
          refine LL.mono ?_
          rintro e y5 ⟨rfl, hb5⟩
          have R6 := R5.move hb5
          have hblk5 := blk_below hb5 (heap_alloc_new _ _)
          have hL5 : y3.heap.size < y5.heap.size := blk_lt hblk5
          have v0 : y5.cell? ⟨y3.heap.size, 0, none⟩ = some (.int .i64 0) := by rw [cell_of_row _ _ _ _ _ _ hblk5]; rfl
          have v1 : y5.cell? ⟨y3.heap.size, 1, none⟩ = some (.int .i64 0) := by rw [cell_of_row _ _ _ _ _ _ hblk5]; rfl
          have v2 : y5.cell? ⟨y3.heap.size, 2, none⟩ = some (.string ByteArray.empty) := by rw [cell_of_row _ _ _ _ _ _ hblk5]; rfl
          go_wp2
          go_roundg (n - (k + 1))
          case measure => omega
          case rel => exact ⟨k + 1, r', f', 0, by omega, rfl, by go_num, R6.move ((Below.refl y5.heap.size y5).alloc (Nat.le_refl _) _)⟩
        · have hmp : 0 < m' := by omega
          obtain ⟨gr, orow, rfl, hcell⟩ := hcells hmp
          have hc0 := hcell 0 _ (rowOf_get hmp)
          rw [show (f' + 0) % 4 = f' by omega, show orow + 0 * 3 = orow by omega] at hc0
          have hd1 : decide ((0 : Int) < (m' : Int)) = true := by rw [decide_eq_true_iff]; omega
          have hd2 : decide (0 < m') = true := by rw [decide_eq_true_iff]; omega
          have HM := Lib.hid hm0
          have HC := Lib.hid hcell
          clear hm0 hcell hrl hcells
          go_wp2_with fail
          have F := first_ok B f' m' r' _ R'.buf hmp
          rw [show (r' f').val = .agg #[.int .i64 (r' f').place, .int .i64 (r' f').kind, .string (r' f').data] from rfl] at F
          refine F.mono ?_
          rintro e y1 ⟨rfl, hy1⟩
          have R1 := R'.move hy1
          have hc1 := hc0.below hy1
          clear hc0
          go_wp2_with fail
          have R2 := R1.move ((Below.refl y1.heap.size y1).alloc (Nat.le_refl _) (.cells #[.int .i64 (r' f').place, .int .i64 (r' f').kind, .string (r' f').data] 48))
          refine (all_c B f' m' r' _ R2.buf).mono ?_
          rintro e y2 ⟨va, rfl, hown, hy2⟩
          have R3 := R2.move hy2
          obtain ⟨Aa, ca, rfl, hca, hall⟩ := rd_of_own hown (rowOf_len _ _ _)
          rw [rowOf_len] at hca hall
          obtain ⟨ga, oa, rfl, hcella⟩ := hall hmp
          have d0 : y2.cell? ⟨y1.heap.size, 0, none⟩ = some (.int .i64 (r' f').place) := keep_below hy2 (by rw [World.cell?_alloc_at _ _ _ _ rfl]; rfl)
          have d1 : y2.cell? ⟨y1.heap.size, 1, none⟩ = some (.int .i64 (r' f').kind) := keep_below hy2 (by rw [World.cell?_alloc_at _ _ _ _ rfl]; rfl)
          have d2 : y2.cell? ⟨y1.heap.size, 2, none⟩ = some (.string (r' f').data) := keep_below hy2 (by rw [World.cell?_alloc_at _ _ _ _ rfl]; rfl)
          have hc2 := (hc1.below ((Below.refl y1.heap.size y1).alloc (Nat.le_refl _) (.cells #[.int .i64 (r' f').place, .int .i64 (r' f').kind, .string (r' f').data] 48))).below hy2
          obtain ⟨e0, e1, e2⟩ := hc2
          clear hc1
          go_wp2_with fail
          rw [rowOf_len]
          have ql : ∀ k, Calls Try.prog 39 #[.pointer (some ⟨B, 0, none⟩)] (y2.drewN k) fun e w'' => e = .returned (.int .i64 m') ∧ ∃ j, w'' = y2.drewN j := fun k => (len_c B f' m' r' (y2.drewN k) R3.buf).mono fun _ _ ⟨a, b⟩ => ⟨a, k, b.symm⟩
          have qf : ∀ k, Calls Try.prog 40 #[.pointer (some ⟨B, 0, none⟩)] (y2.drewN k) fun e w'' => e = .returned (.bool ((m' : Int) == 4)) ∧ ∃ j, w'' = y2.drewN j := fun k => (full_c B f' m' r' (y2.drewN k) R3.buf).mono fun _ _ ⟨a, b⟩ => ⟨a.trans (ret_bool (by rw [Bool.eq_iff_iff]; simp; omega)), k, b.symm⟩
          have QL := Lib.hid ql
          have QF := Lib.hid qf
          clear ql qf
          go_quiet (first | (go_at_call 39; exact QL.out _) | (go_at_call 40; exact QF.out _))
          clear QL QF
          obtain ⟨y3, hy3⟩ : ∃ y3, y3 = y2.drewN nq := ⟨_, rfl⟩
          rw [← hy3]
          have hb3 : Below y2.heap.size y2 y3 := by rw [hy3]; exact below_drewN (Below.refl _ _) _
          have R4 := R3.move hb3
          have hcell3 : ∀ (k : Nat) (x : Chg), (rowOf r' f' m')[k]? = some x → ChgAt y3 gr (orow + k * 3) x := fun k x hk => ((((HC.out k x hk).below hy1).below ((Below.refl y1.heap.size y1).alloc (Nat.le_refl _) (.cells #[.int .i64 (r' f').place, .int .i64 (r' f').kind, .string (r' f').data] 48))).below hy2).below hb3
          have hcella3 : ∀ (k : Nat) (x : Chg), (rowOf r' f' m')[k]? = some x → ChgAt y3 ga (oa + k * 3) x := fun k x hk => (hcella k x hk).below hb3
          have H3 := Lib.hid hcell3
          have H4 := Lib.hid hcella3
          clear hcell3 hcella3 hcella hb3 hy3 d0 d1 d2 e0 e1 e2 HC hown R3 R2 R1 hy1 hy2 F
          go_wp2_with fail
          have hmm : (m' : Int) ≤ 4 := by omega
          go_loopg [14, 123] m' (fun gk hs i wr2 => ∃ j, j ≤ m' ∧ gk = m' - j ∧ i = .int .i64 (j : Nat) ∧ hs = .bool (lastOf r' f' place j).isSome ∧
              wr2.heap[y3.heap.size]? = some (.cells #[.int .i64 ((lastOf r' f' place j).getD Chg.zero).place, .int .i64 ((lastOf r' f' place j).getD Chg.zero).kind, .string ((lastOf r' f' place j).getD Chg.zero).data] 48 (0, 0)) ∧ Below y3.heap.size y3 wr2)
          case atStart => exact ⟨0, by omega, by omega, rfl, rfl, heap_alloc_new _ _, (Below.refl _ _).alloc (Nat.le_refl _) _⟩
          case round =>
            obtain ⟨j, hj, rfl, rfl, rfl, hblk, hbr⟩ := hrel
            by_cases hjlt : j < m'
            · have hx := rowOf_get (r := r') (f := f') hjlt
              obtain ⟨p0, p1, p2⟩ := (H3.out _ _ hx).below hbr
              obtain ⟨q0, q1, q2⟩ := (H4.out _ _ hx).below hbr
              have hga : ga < wr.heap.size := World.block_lt_of_cell? _ _ q0
              have hLw : y3.heap.size < wr.heap.size := blk_lt hblk
              have hlast : lastOf r' f' place (j + 1) = if (r' ((f' + j) % 4)).place = place then some (r' ((f' + j) % 4)) else lastOf r' f' place j := rfl
              have HL := Lib.hid hlast
              clear hlast hx
              generalize r' ((f' + j) % 4) = x at *
              have hj0 : (0 : Int) ≤ (j : Int) := by omega
              have hjm : (j : Int) < (m' : Int) := by omega
              have hjd : decide ((j : Int) < (m' : Int)) = true := by rw [decide_eq_true_iff]; exact hjm
              go_wp2_with fail
              go_quiet (fail)
              obtain ⟨y4, hy4⟩ : ∃ y4, y4 = (wr.alloc (.cells #[.int .i64 x.place, .int .i64 x.kind, .string x.data] 48)).drewN nq := ⟨_, rfl⟩
              rw [← hy4]
              have hb4 : Below wr.heap.size wr y4 := by rw [hy4]; exact below_drewN ((Below.refl _ _).alloc (Nat.le_refl _) _) _
              have hblk4 := blk_below hb4 hblk
              have hx4 : y4.heap[wr.heap.size]? = some (.cells #[.int .i64 x.place, .int .i64 x.kind, .string x.data] 48 (0, 0)) := by rw [hy4]; exact heap_alloc_new _ _
              have u0 : y4.cell? ⟨wr.heap.size, 0, none⟩ = some (.int .i64 x.place) := by rw [cell_of_row _ _ _ _ _ _ hx4]; rfl
              have u1 : y4.cell? ⟨wr.heap.size, 1, none⟩ = some (.int .i64 x.kind) := by rw [cell_of_row _ _ _ _ _ _ hx4]; rfl
              have u2 : y4.cell? ⟨wr.heap.size, 2, none⟩ = some (.string x.data) := by rw [cell_of_row _ _ _ _ _ _ hx4]; rfl
              have v0 : y4.cell? ⟨y3.heap.size, 0, none⟩ = some (.int .i64 ((lastOf r' f' place j).getD Chg.zero).place) := by rw [cell_of_row _ _ _ _ _ _ hblk4]; rfl
              have v1 : y4.cell? ⟨y3.heap.size, 1, none⟩ = some (.int .i64 ((lastOf r' f' place j).getD Chg.zero).kind) := by rw [cell_of_row _ _ _ _ _ _ hblk4]; rfl
              have v2 : y4.cell? ⟨y3.heap.size, 2, none⟩ = some (.string ((lastOf r' f' place j).getD Chg.zero).data) := by rw [cell_of_row _ _ _ _ _ _ hblk4]; rfl
              have z0 : y4.frozen? ⟨y3.heap.size, 0, none⟩ = false := frozen_of_row _ _ _ _ _ hblk4
              have z1 : y4.frozen? ⟨y3.heap.size, 1, none⟩ = false := frozen_of_row _ _ _ _ _ hblk4
              have z2 : y4.frozen? ⟨y3.heap.size, 2, none⟩ = false := frozen_of_row _ _ _ _ _ hblk4
              have hbr4 : Below y3.heap.size y3 y4 := hbr.trans (hb4.mono (Nat.le_of_lt hLw))
              have HB4 := Lib.hid hblk4
              clear hy4 hb4 hx4 hblk hblk4 p0 p1 p2 q0 q1 q2
              by_cases hp : x.place = place
              · have hpb : (x.place == place) = true := by rw [beq_iff_eq]; exact hp
                have hl2 : lastOf r' f' place (j + 1) = some x := by rw [HL.out, if_pos hp]
                have HL2 := Lib.hid hl2
                clear hp hl2
                go_wp2
                go_roundg (m' - (j + 1))
                case measure => omega
                case rel =>
                  refine ⟨j + 1, by omega, rfl, by go_num, by rw [HL2.out]; rfl, ?_, below_set (below_set (below_set hbr4 (Nat.le_refl _) _ _) (Nat.le_refl _) _ _) (Nat.le_refl _) _ _⟩
                  rw [HL2.out]
                  have a1 := heap_setCell_same y4 y3.heap.size 0 _ _ (.int .i64 x.place) HB4.out
                  have a2 := heap_setCell_same _ y3.heap.size 1 _ _ (.int .i64 x.kind) a1
                  exact heap_setCell_same _ y3.heap.size 2 _ _ (.string x.data) a2
              · have hpb : (x.place == place) = false := by rw [beq_eq_false_iff_ne]; exact hp
                have hl2 : lastOf r' f' place (j + 1) = lastOf r' f' place j := by rw [HL.out, if_neg hp]
                have HL2 := Lib.hid hl2
                clear hp hl2
                go_wp2
                go_roundg (m' - (j + 1))
                case measure => omega
                case rel => exact ⟨j + 1, by omega, rfl, by go_num, by rw [HL2.out], by rw [HL2.out]; exact HB4.out, hbr4⟩
            · obtain rfl : j = m' := by omega
              go_wp2_with fail
              have R5 := R4.move (hbr.mono (Nat.le_refl _))
              generalize hlo : lastOf r' f' place j = lo at hblk
              have LL := last_c B f' j r' place wr R5.buf
              rw [hlo] at LL
              rw [show lastV lo = .tuple #[.agg #[.int .i64 (lo.getD Chg.zero).place, .int .i64 (lo.getD Chg.zero).kind, .string (lo.getD Chg.zero).data], .bool lo.isSome] from rfl] at LL
              refine LL.mono ?_
              rintro e y5 ⟨rfl, hb5⟩
              have R6 := R5.move hb5
              have hblk5 := blk_below hb5 hblk
              have hL5 : y3.heap.size < y5.heap.size := blk_lt hblk5
              generalize lo.getD Chg.zero = cl at hblk5
              have v0 : y5.cell? ⟨y3.heap.size, 0, none⟩ = some (.int .i64 cl.place) := by rw [cell_of_row _ _ _ _ _ _ hblk5]; rfl
              have v1 : y5.cell? ⟨y3.heap.size, 1, none⟩ = some (.int .i64 cl.kind) := by rw [cell_of_row _ _ _ _ _ _ hblk5]; rfl
              have v2 : y5.cell? ⟨y3.heap.size, 2, none⟩ = some (.string cl.data) := by rw [cell_of_row _ _ _ _ _ _ hblk5]; rfl
              go_wp2
              go_roundg (n - (k + 1))
              case measure => omega
              case rel => exact ⟨k + 1, r', f', j, by omega, rfl, by go_num, R6.move ((Below.refl y5.heap.size y5).alloc (Nat.le_refl _) _)⟩
    · obtain rfl : k = n := by omega
      go_wp2
      go_ret
      exact ⟨rfl, R.below⟩
theorem bufferPlays_big (A : Option Addr) (n cap : Nat) (place : Int) (w : World) (hn : ¬ n ≤ 200) :
    Calls Try.prog 6 #[.slice A n cap, .int .i64 place] w fun e w' => e = .returned (.bool true) ∧ Below w.heap.size w w' := by
  have hn' : decide (200 < (n : Int)) = true := by rw [decide_eq_true_iff]; omega
  clear hn
  go_enter Try.func6, Try.ntmps6
  go_wp2_with fail
  refine (fixed13_c _).mono ?_
  rintro e x1 ⟨rfl, hb1⟩
  go_wp2
  go_ret
  exact ⟨rfl, hb1⟩
theorem bufferPlays_none (A : Option Addr) (cap : Nat) (place : Int) (w : World) :
    Calls Try.prog 6 #[.slice A 0 cap, .int .i64 place] w fun e w' => e = .returned (.bool true) ∧ Below w.heap.size w w' := by
  go_enter Try.func6, Try.ntmps6
  go_wp2_with fail
  refine (fixed13_c _).mono ?_
  rintro e x1 ⟨rfl, hb1⟩
  go_wp2_with fail
  refine (new_c _).mono ?_
  rintro e x2 ⟨rfl, B2, hb2⟩
  go_wp2_with fail
  refine wp_loop_rounds 1 ?_
  rw [rounds_succ]
  go_wp2
  go_ret
  exact ⟨rfl, hb1.trans (hb2.mono hb1.size)⟩
end Go.Proofs.Ytppndeoiifkkkaa
