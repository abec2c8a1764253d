/- Symbolic walks, part S: calls whose arguments are known, reckoned by the kernel: whole functions. No condition. -/
import Derived.Test.YtppndeoiifkkkaaSzR
namespace Go.Proofs.Ytppndeoiifkkkaa.Sz
open Go.RowKit
set_option linter.unusedVariables false
set_option linter.unusedSimpArgs false
/-! ### What may come of it: some outcomes -/
def collect {α β : Type} (f : α → Option (List β)) : List α → Option (List β)
  | [] => some []
  | a :: l => match f a with
    | some x => (match l with
      | [] => some x
      | _ => (match collect f l with | some y => some (x ++ y) | none => none))
    | none => none
theorem collect_ok {α β : Type} {f : α → Option (List β)} : ∀ {l : List α} {r : List β}, collect f l = some r → ∀ a ∈ l, ∃ x, f a = some x ∧ ∀ b ∈ x, b ∈ r
  | [], r, h, a, ha => by simp at ha
  | c :: l, r, h, a, ha => by
    unfold collect at h
    split at h
    · rename_i x hx
      split at h
      · injection h with h; subst h
        simp at ha; subst ha
        exact ⟨x, hx, fun b hb => hb⟩
      · split at h
        · rename_i y hy
          injection h with h; subst h
          rcases List.mem_cons.1 ha with rfl | ha
          · exact ⟨x, hx, fun b hb => by simp [hb]⟩
          · obtain ⟨z, hz, hb⟩ := collect_ok hy a ha
            exact ⟨z, hz, fun b hbz => by simp [hb b hbz]⟩
        · cases h
    · cases h
def bindO {α β : Type} (L : Option (List α)) (f : α → Option (List β)) : Option (List β) := match L with | some l => collect f l | none => none
theorem bindO_ok {α β : Type} {L : Option (List α)} {f : α → Option (List β)} {r : List β} (h : bindO L f = some r) : ∃ l, L = some l ∧ ∀ a ∈ l, ∃ x, f a = some x ∧ ∀ b ∈ x, b ∈ r := by
  unfold bindO at h
  split at h
  · exact ⟨_, rfl, collect_ok h⟩
  · cases h
abbrev Callee := FuncId → List SV → Mem → Option (List (SV × Mem))
def growsR (m : Mem) (sz : Nat) : SV → Bool
  | .v (.slice _ n c) => Nat.beq n c
  | .row k o n s => Nat.beq s sz && (match m[k]? with | some ob => ob.own && Nat.beq (o + n * sz) ob.cells.length | none => false)
  | _ => false
theorem growsR_ok {m : Mem} {sz : Nat} {s : SV} (h : growsR m sz s = true) : grows m sz s := by
  unfold growsR at h
  unfold grows
  split at h
  · exact nbeq.1 h
  · rename_i k o n s
    simp only [Bool.and_eq_true] at h
    refine ⟨nbeq.1 h.1, ?_⟩
    have h2 := h.2
    split at h2
    · rename_i ob hob
      simp only [Bool.and_eq_true] at h2
      simp only [hob]
      exact ⟨h2.1, nbeq.1 h2.2⟩
    · cases h2
  · cases h
def capR : SV → Bool
  | .v (.slice _ n c) => Nat.ble n c
  | _ => true
theorem capR_ok {s : SV} (h : capR s = true) : capOk s := by
  unfold capR at h
  unfold capOk
  split at h
  · exact Nat.le_of_ble_eq_true h
  · rename_i hne
    split
    · exact (hne _ _ _ rfl).elim
    · trivial
def rB (cl : Callee) (x : XB) (e : Env) (m : Mem) : Option (List (SV × Mem)) :=
  match x with
  | .ofA x => match rA x e m with | some s => some [(s, m)] | none => none
  | .box x => match (x.get e).cells with | some cs => some [(.ptr m.length 0, m ++ [⟨true, cs⟩])] | none => none
  | .alloc zero => some [(.ptr m.length 0, m ++ [⟨true, zero⟩])]
  | .build zero parts => match fillS zero (parts.map fun p => (p.1, p.2.1, p.2.2.get e)) with | some cs => some [(.agg cs, m)] | none => none
  | .buildSl sz len zero parts => match fillS zero (parts.map fun p => (p.1, p.2.1, p.2.2.get e)) with | some cs => some [(.row m.length 0 len sz, m ++ [⟨true, cs⟩])] | none => none
  | .store sz a x =>
    match a.get e, (x.get e).cells with
    | .ptr k o, some cs =>
      match m[k]? with
      | some ob => if ob.own = true ∧ cs.length = sz ∧ o + sz ≤ ob.cells.length ∧ cs.all SV.one = true then some [(.tup [], m.set k ⟨true, over ob.cells o cs⟩)] else none
      | none => none
    | _, _ => none
  | .app sz bytes s x =>
    match rSl m sz (s.get e), rSl m sz (x.get e) with
    | some (n, xs), some (k, ys) =>
      if k = 0 then (if capR (s.get e) = true then some [(s.get e, m)] else none) else
      if growsR m sz (s.get e) = true ∧ xs.length = n * sz ∧ ys.length = k * sz ∧ 0 < k ∧ ys.all SV.one = true ∧ n + k ≤ maxLen ∧ (n + k) * bytes ≤ 140737488355328 then some [(.row m.length 0 (n + k) sz, kill m (s.get e) ++ [⟨true, xs ++ ys⟩])] else none
    | _, _ => none
  | .apps bytes s x =>
    match rSl m 1 (s.get e), x.get e with
    | some (n, xs), .v (.string str) =>
      if str.size = 0 then (if capR (s.get e) = true then some [(s.get e, m)] else none) else
      if growsR m 1 (s.get e) = true ∧ xs.length = n ∧ n + str.size ≤ maxLen ∧ (n + str.size) * bytes ≤ 140737488355328 then some [(.row m.length 0 (n + str.size) 1, kill m (s.get e) ++ [⟨true, xs ++ bytesC str⟩])] else none
    | _, _ => none
  | .cpy sz d x =>
    match d.get e, rSl m sz (x.get e) with
    | .row k o n s, some (k2, ys) =>
      match m[k]? with
      | some ob => if s = sz ∧ ob.own = true ∧ o + n * sz ≤ ob.cells.length ∧ ys.length = k2 * sz ∧ ys.all SV.one = true then some [(.v (.int .i64 (min k2 n : Nat)), m.set k ⟨true, over ob.cells o (ys.take (min k2 n * sz))⟩)] else none
      | none => none
    | _, _ => none
  | .mkSl sz bytes zero l c =>
    match l.get e, c.get e with
    | .v (.int _ n), .v (.int _ q) => if 0 ≤ n ∧ n ≤ q ∧ (bytes : Int) * q ≤ 281474976710656 ∧ q ≤ 9223372036854775807 then some [(.row m.length 0 n.toNat sz, m ++ [⟨true, (List.replicate n.toNat zero).flatten⟩])] else none
    | _, _ => none
  | .s2b x => match x.get e with | .v (.string s) => some [(.row m.length 0 s.size 1, m ++ [⟨false, bytesC s⟩])] | _ => none
  | .call f args => match f.get e with | .fn f cap => cl f (args.map (XO.get e) ++ cap) m | .bnd f fst => cl f (fst ++ args.map (XO.get e)) m | _ => none
/-- The callees are what the table says. -/
structure ClOk [Inp] (G : List CEntry) (cl : Callee) (qf : FuncId → Bool) : Prop where
  run : ∀ f args m L, cl f args m = some L → ∃ c, look f G = some c ∧ ∀ K : SV → Mem → Prop, (∀ o ∈ L, K o.1 o.2) → c.tr args m K
  q : ∀ f, qf f = true → ∃ c, look f G = some c ∧ c.q = true
theorem rB_ok [Inp] {G : List CEntry} {cl : Callee} {qf : FuncId → Bool} (hcl : ClOk G cl qf) {x : XB} {e : Env} {m : Mem} {L : List (SV × Mem)} {K : SV → Mem → Prop} (h : rB cl x e m = some L) (hK : ∀ o ∈ L, K o.1 o.2) : evB G x e m K := by
  cases x <;> simp only [rB] at h <;> simp only [evB]
  case ofA x =>
    split at h
    · rename_i s hs
      injection h with h; subst h
      exact rA_ok (K := fun s => K s m) hs (hK (s, m) (List.mem_singleton.2 rfl))
    · cases h
  case box x =>
    split at h
    · rename_i cs hcs
      injection h with h; subst h
      simp only [hcs]
      exact hK _ (List.mem_singleton.2 rfl)
    · cases h
  case alloc zero => injection h with h; subst h; exact hK _ (List.mem_singleton.2 rfl)
  case build zero parts =>
    split at h
    · rename_i cs hcs
      injection h with h; subst h
      simp only [hcs]
      exact hK _ (List.mem_singleton.2 rfl)
    · cases h
  case buildSl sz len zero parts =>
    split at h
    · rename_i cs hcs
      injection h with h; subst h
      simp only [hcs]
      exact hK _ (List.mem_singleton.2 rfl)
    · cases h
  case store sz a x =>
    split at h
    · rename_i k o cs h1 h2
      simp only [h1, h2]
      split at h
      · rename_i ob hob
        simp only [hob]
        split at h
        · rename_i hc
          injection h with h; subst h
          exact ⟨hc, hK _ (List.mem_singleton.2 rfl)⟩
        · cases h
      · cases h
    · cases h
  case app sz bytes s x =>
    split at h
    · rename_i n xs k ys h1 h2
      simp only [rSl_ok h1, rSl_ok h2]
      split at h
      · rename_i hk
        rw [if_pos hk]
        split at h
        · rename_i hc
          injection h with h; subst h
          exact ⟨capR_ok hc, hK _ (List.mem_singleton.2 rfl)⟩
        · cases h
      · rename_i hk
        rw [if_neg hk]
        split at h
        · rename_i hc
          injection h with h; subst h
          exact ⟨⟨growsR_ok hc.1, hc.2⟩, hK _ (List.mem_singleton.2 rfl)⟩
        · cases h
    · cases h
  case apps bytes s x =>
    split at h
    · rename_i n xs str h1 h2
      simp only [rSl_ok h1, h2]
      split at h
      · rename_i hk
        rw [if_pos hk]
        split at h
        · rename_i hc
          injection h with h; subst h
          exact ⟨capR_ok hc, hK _ (List.mem_singleton.2 rfl)⟩
        · cases h
      · rename_i hk
        rw [if_neg hk]
        split at h
        · rename_i hc
          injection h with h; subst h
          exact ⟨⟨growsR_ok hc.1, hc.2⟩, hK _ (List.mem_singleton.2 rfl)⟩
        · cases h
    · cases h
  case cpy sz d x =>
    split at h
    · rename_i k o n s k2 ys h1 h2
      simp only [h1, rSl_ok h2]
      split at h
      · rename_i ob hob
        simp only [hob]
        split at h
        · rename_i hc
          injection h with h; subst h
          exact ⟨hc, hK _ (List.mem_singleton.2 rfl)⟩
        · cases h
      · cases h
    · cases h
  case mkSl sz bytes zero l c =>
    split at h
    · rename_i h1 h2
      simp only [h1, h2]
      split at h
      · rename_i hc
        injection h with h; subst h
        exact ⟨hc, hK _ (List.mem_singleton.2 rfl)⟩
      · cases h
    · cases h
  case s2b x =>
    split at h
    · rename_i h1
      simp only [h1]
      injection h with h; subst h
      exact hK _ (List.mem_singleton.2 rfl)
    · cases h
  case call f args =>
    split at h
    · rename_i f cap h1
      simp only [h1]
      obtain ⟨c, h2, h3⟩ := hcl.run _ _ _ _ h
      simp only [h2]
      exact h3 K hK
    · rename_i f cap h1
      simp only [h1]
      obtain ⟨c, h2, h3⟩ := hcl.run _ _ _ _ h
      simp only [h2]
      exact h3 K hK
    · cases h
def quietR (qf : FuncId → Bool) (e : Env) : XB → Bool
  | .store .. | .app .. | .apps .. | .cpy .. => false
  | .call f _ => match f.get e with | .fn f _ | .bnd f _ => qf f | _ => false
  | _ => true
/-! ### Regions -/
def putR (e : BT) : Option Nat → SV → Option BT
  | some d, s => e.set d s
  | none, _ => some e
theorem putR_ok {e e' : BT} {d : Option Nat} {s : SV} (h : putR e d s = some e') : putO e.get d s = e'.get := by
  cases d with
  | none => simp only [putR] at h; injection h with h; subst h; rfl
  | some d => exact BT.put_of h
theorem put_self {e : Env} {t : Nat} {s : SV} (h : e t = s) : put e t s = e := by
  funext x
  unfold put
  split
  · rename_i hx; rw [hx, h]
  · rfl
def rPut (dst : Option Nat) (e : BT) (o : SV × Mem) : Option (List (BT × Mem)) := match putR e dst o.1 with | some e' => some [(e', o.2)] | none => none
def rI (cl : Callee) (i : XI) (e : BT) (m : Mem) : Option (List (BT × Mem)) :=
  match i.grd with
  | none => bindO (rB cl i.op e.get m) (rPut i.dst e)
  | some (t, want) =>
    match e.get t with
    | .v (.bool b) => if b = want then bindO (rB cl i.op e.get m) (rPut i.dst e) else rPut i.dst e (.tup [], m)
    | .tup [] => rPut i.dst e (.tup [], m)
    | _ => none
theorem rI_ok [Inp] {G : List CEntry} {cl : Callee} {qf : FuncId → Bool} (hcl : ClOk G cl qf) {i : XI} {e : BT} {m : Mem} {L : List (BT × Mem)} {K : Env → Mem → Prop} (h : rI cl i e m = some L) (hK : ∀ o ∈ L, K o.1.get o.2) : evI G i e.get m K := by
  have run : bindO (rB cl i.op e.get m) (rPut i.dst e) = some L → evB G i.op e.get m fun s m' => K (putO e.get i.dst s) m' := by
    intro h
    obtain ⟨l, h1, h2⟩ := bindO_ok h
    refine rB_ok hcl h1 fun o ho => ?_
    obtain ⟨x, h3, h4⟩ := h2 o ho
    unfold rPut at h3
    split at h3
    · rename_i e' he
      injection h3 with h3; subst h3
      rw [putR_ok he]
      exact hK _ (h4 _ (List.mem_singleton.2 rfl))
    · cases h3
  have skip : rPut i.dst e (.tup [], m) = some L → K (putO e.get i.dst (.tup [])) m := by
    intro h
    unfold rPut at h
    split at h
    · rename_i e' he
      injection h with h; subst h
      rw [putR_ok he]
      exact hK _ (List.mem_singleton.2 rfl)
    · cases h
  unfold rI at h
  unfold evI
  split at h
  · rename_i hg
    simp only [hg]
    exact run h
  · rename_i t want hg
    simp only [hg]
    split at h
    · rename_i b hb
      simp only [hb]
      split at h
      · rename_i hbw
        subst hbw
        rw [if_pos rfl, put_self hb]
        exact run h
      · rename_i hbw
        have : b = !want := by cases b <;> cases want <;> simp_all
        rw [if_neg hbw, ← this, put_self hb]
        exact skip h
    · rename_i hb
      simp only [hb]
      exact skip h
    · cases h
def sameO (a b : BT × Mem) : Bool := btq a.1 b.1 && memq a.2 b.2
def unionO (a b : List (BT × Mem)) : List (BT × Mem) := bif a.all (fun x => b.any (sameO x)) then b else a ++ b
theorem union_ok {a b : List (BT × Mem)} : (∀ x ∈ a, x ∈ unionO a b) ∧ ∀ x ∈ b, x ∈ unionO a b := by
  unfold unionO
  cases h : a.all (fun x => b.any (sameO x)) with
  | true =>
    simp only [cond_true]
    refine ⟨fun x hx => ?_, fun x hx => hx⟩
    have := List.all_eq_true.1 h x hx
    obtain ⟨y, hy, he⟩ := List.any_eq_true.1 this
    unfold sameO at he
    simp only [Bool.and_eq_true] at he
    have : x = y := by
      obtain ⟨x1, x2⟩ := x
      obtain ⟨y1, y2⟩ := y
      simp only at he
      rw [btq_ok he.1, memq_ok he.2]
    rw [this]; exact hy
  | false =>
    simp only [cond_false]
    exact ⟨fun x hx => by simp [hx], fun x hx => by simp [hx]⟩
mutual
def rT (cl : Callee) (qf : FuncId → Bool) : XT → BT → Mem → Option (List (BT × Mem))
  | .done, e, m => some [(e, m)]
  | .seq i rest, e, m => bindO (rI cl i e m) fun o => rT cl qf rest o.1 o.2
  | .take i rest, e, m => bindO (rI cl i e m) fun o => rT cl qf rest o.1 o.2
  | .act q alts, e, m => rAlts cl qf q alts e m
def rAlts (cl : Callee) (qf : FuncId → Bool) (q : Bool) : List (XI × XT) → BT → Mem → Option (List (BT × Mem))
  | [], _, _ => some []
  | (i, t) :: rest, e, m => bif q && !quietR qf e.get i.op then none else
    match bindO (rI cl i e m) (fun o => rT cl qf t o.1 o.2), rAlts cl qf q rest e m with
    | some a, some b => some (unionO a b)
    | _, _ => none
end
theorem quietR_ok [Inp] {G : List CEntry} {cl : Callee} {qf : FuncId → Bool} {x : XB} {e : Env} (hcl : ClOk G cl qf) (h : quietR qf e x = true) : quiet G e x = true := by
  cases x <;> simp only [quietR] at h <;> simp only [quiet]
  all_goals first | (cases h; done) | skip
  rename_i f args
  split at h
  · rename_i f cap h1
    simp only [h1]
    obtain ⟨c, h2, h3⟩ := hcl.q _ h
    simp only [h2, h3]
  · rename_i f cap h1
    simp only [h1]
    obtain ⟨c, h2, h3⟩ := hcl.q _ h
    simp only [h2, h3]
  · cases h
mutual
theorem rT_ok [Inp] {G : List CEntry} {cl : Callee} {qf : FuncId → Bool} (hcl : ClOk G cl qf) : ∀ (t : XT) {e : BT} {m : Mem} {L : List (BT × Mem)} {K : Env → Mem → Prop}, rT cl qf t e m = some L → (∀ o ∈ L, K o.1.get o.2) → evT G t e.get m K
  | .done, e, m, L, K, h, hK => by
    simp only [rT] at h
    injection h with h; subst h
    exact hK _ (List.mem_singleton.2 rfl)
  | .seq i rest, e, m, L, K, h, hK => by
    simp only [rT] at h
    simp only [evT]
    obtain ⟨l, h1, h2⟩ := bindO_ok h
    refine rI_ok hcl h1 fun o ho => ?_
    obtain ⟨x, h3, h4⟩ := h2 o ho
    exact rT_ok hcl rest h3 fun o ho => hK o (h4 o ho)
  | .take i rest, e, m, L, K, h, hK => by
    simp only [rT] at h
    simp only [evT]
    obtain ⟨l, h1, h2⟩ := bindO_ok h
    refine rI_ok hcl h1 fun o ho => ?_
    obtain ⟨x, h3, h4⟩ := h2 o ho
    exact rT_ok hcl rest h3 fun o ho => hK o (h4 o ho)
  | .act q alts, e, m, L, K, h, hK => by
    simp only [rT] at h
    simp only [evT]
    exact rAlts_ok hcl q alts h hK
theorem rAlts_ok [Inp] {G : List CEntry} {cl : Callee} {qf : FuncId → Bool} (hcl : ClOk G cl qf) (q : Bool) : ∀ (alts : List (XI × XT)) {e : BT} {m : Mem} {L : List (BT × Mem)} {K : Env → Mem → Prop}, rAlts cl qf q alts e m = some L → (∀ o ∈ L, K o.1.get o.2) → evAlts G q alts e.get m K
  | [], e, m, L, K, h, hK => by simp only [evAlts]
  | (i, t) :: rest, e, m, L, K, h, hK => by
    simp only [rAlts] at h
    simp only [evAlts]
    cases hq : q && !quietR qf e.get i.op with
    | true => simp [hq] at h
    | false =>
      simp only [hq, cond_false] at h
      split at h
      · rename_i a b ha hb
        injection h with h; subst h
        obtain ⟨u1, u2⟩ := @union_ok a b
        obtain ⟨l, h1, h2⟩ := bindO_ok ha
        refine ⟨⟨fun hqt => ?_, ?_⟩, rAlts_ok hcl q rest hb fun o ho => hK o (u2 o ho)⟩
        · rw [hqt] at hq
          simp only [Bool.true_and, Bool.not_eq_false'] at hq
          exact quietR_ok hcl hq
        · refine rI_ok hcl h1 fun o ho => ?_
          obtain ⟨x, h3, h4⟩ := h2 o ho
          exact rT_ok hcl t h3 fun o ho => hK o (u1 o (h4 o ho))
      · cases h
end
/-! ### Code -/
abbrev Out := Exit × BT × Mem
def rLoop (f : BT → Mem → Option (List Out)) : Nat → BT → Mem → Option (List Out)
  | 0, _, _ => none
  | n + 1, e, m => bindO (f e m) fun o => match o.1 with
    | .normal => rLoop f n o.2.1 o.2.2
    | _ => some [o]
def rX (cl : Callee) (qf : FuncId → Bool) (fuel : Nat) : XC → BT → Mem → Option (List Out)
  | .skip, e, m => some [(.normal, e, m)]
  | .tree t, e, m => bindO (rT cl qf t e m) fun o => some [(.normal, o.1, o.2)]
  | .seq a b, e, m => bindO (rX cl qf fuel a e m) fun o => match o.1 with
    | .normal => rX cl qf fuel b o.2.1 o.2.2
    | _ => some [o]
  | .cond c a b, e, m => match c.get e.get with
    | .v (.bool t) => bif t then rX cl qf fuel a e m else rX cl qf fuel b e m
    | _ => none
  | .block id a, e, m => bindO (rX cl qf fuel a e m) fun o => match o.1 with
    | .exit i => bif Nat.beq i id then some [(.normal, o.2.1, o.2.2)] else some [o]
    | _ => some [o]
  | .loop a, e, m => rLoop (rX cl qf fuel a) fuel e m
  | .exit id, e, m => some [(.exit id, e, m)]
  | .ret, e, m => some [(.ret, e, m)]
theorem rX_ok [Inp] {P : Program} {N : Nat} {eff : List FuncId} {G : List CEntry} (hG : GOk P G) {cl : Callee} {qf : FuncId → Bool} (hcl : ClOk G cl qf) (fuel : Nat) :
    ∀ (x : XC) {e : BT} {m : Mem} {L : List Out} {Q : Post}, rX cl qf fuel x e m = some L → (∀ o ∈ L, Q o.1 o.2.1.get o.2.2) → evX P N eff G x e.get m Q := by
  intro x
  induction x with
  | skip => intro e m L Q h hQ; simp only [rX] at h; injection h with h; subst h; exact hQ _ (List.mem_singleton.2 rfl)
  | exit id => intro e m L Q h hQ; simp only [rX] at h; injection h with h; subst h; exact hQ _ (List.mem_singleton.2 rfl)
  | ret => intro e m L Q h hQ; simp only [rX] at h; injection h with h; subst h; exact hQ _ (List.mem_singleton.2 rfl)
  | tree t =>
    intro e m L Q h hQ
    simp only [rX] at h
    obtain ⟨l, h1, h2⟩ := bindO_ok h
    simp only [evX]
    refine rT_ok hcl t h1 fun o ho => ?_
    obtain ⟨x, h3, h4⟩ := h2 o ho
    injection h3 with h3; subst h3
    exact hQ _ (h4 _ (List.mem_singleton.2 rfl))
  | seq a b iha ihb =>
    intro e m L Q h hQ
    simp only [rX] at h
    obtain ⟨l, h1, h2⟩ := bindO_ok h
    simp only [evX]
    refine iha h1 fun o ho => ?_
    obtain ⟨x, h3, h4⟩ := h2 o ho
    obtain ⟨ex, e', m'⟩ := o
    cases ex
    case normal =>
      simp only [thenQ]
      exact ihb h3 fun o ho => hQ o (h4 o ho)
    all_goals
      simp only at h3
      injection h3 with h3; subst h3
      simp only [thenQ]
      exact hQ _ (h4 _ (List.mem_singleton.2 rfl))
  | cond c a b iha ihb =>
    intro e m L Q h hQ
    simp only [rX] at h
    simp only [evX]
    split at h
    · rename_i t ht
      simp only [ht]
      cases t
      · simp only [Bool.false_eq_true, if_false]
        rw [upd_same ht]
        exact ihb h hQ
      · simp only [if_true]
        rw [upd_same ht]
        exact iha h hQ
    · cases h
  | block id a iha =>
    intro e m L Q h hQ
    simp only [rX] at h
    obtain ⟨l, h1, h2⟩ := bindO_ok h
    simp only [evX]
    refine iha h1 fun o ho => ?_
    obtain ⟨x, h3, h4⟩ := h2 o ho
    obtain ⟨ex, e', m'⟩ := o
    cases ex
    case exit i =>
      simp only [blockQ]
      simp only at h3
      cases hb : Nat.beq i id with
      | true =>
        simp only [hb, cond_true] at h3
        injection h3 with h3; subst h3
        rw [if_pos (nbeq.1 hb)]
        exact hQ _ (h4 _ (List.mem_singleton.2 rfl))
      | false =>
        simp only [hb, cond_false] at h3
        injection h3 with h3; subst h3
        rw [if_neg (nbeqf.1 hb)]
        exact hQ _ (h4 _ (List.mem_singleton.2 rfl))
    all_goals
      simp only at h3
      injection h3 with h3; subst h3
      simp only [blockQ]
      exact hQ _ (h4 _ (List.mem_singleton.2 rfl))
  | loop a iha =>
    intro e m L Q h hQ
    simp only [rX] at h
    simp only [evX]
    refine TX_unroll hG fuel ?_
    have key : ∀ (n : Nat) {e : BT} {m : Mem} {L : List Out}, rLoop (rX cl qf fuel a) n e m = some L → (∀ o ∈ L, Q o.1 o.2.1.get o.2.2) → unr P N eff G a Q n e.get m := by
      intro n
      induction n with
      | zero => intro e m L h _; simp [rLoop] at h
      | succ n ihn =>
        intro e m L h hQ
        simp only [rLoop] at h
        obtain ⟨l, h1, h2⟩ := bindO_ok h
        simp only [unr]
        refine iha h1 fun o ho => ?_
        obtain ⟨x, h3, h4⟩ := h2 o ho
        obtain ⟨ex, e', m'⟩ := o
        cases ex
        case normal =>
          simp only [thenQ]
          exact ihn h3 fun o ho => hQ o (h4 o ho)
        all_goals
          simp only at h3
          injection h3 with h3; subst h3
          simp only [thenQ]
          exact hQ _ (h4 _ (List.mem_singleton.2 rfl))
    exact key fuel h hQ
/-! ### Functions -/
def rR1 (x : XR) (e : Env) (m : Mem) : Option SV :=
  match x with
  | .tmp t => some (e t)
  | .cell t sz => match e t with | .ptr k o => (match m[k]? with | some ob => rPart ob.cells o sz | none => none) | _ => none
def rRs : List XR → Env → Mem → Option (List SV)
  | [], _, _ => some []
  | x :: l, e, m => match rR1 x e m, rRs l e m with | some s, some ss => some (s :: ss) | _, _ => none
theorem rRs_ok : ∀ {l : List XR} {e : Env} {m : Mem} {ss : List SV} {K : List SV → Prop}, rRs l e m = some ss → K ss → evRs l e m K
  | [], e, m, ss, K, h, hK => by simp only [rRs] at h; injection h with h; subst h; exact hK
  | x :: l, e, m, ss, K, h, hK => by
    simp only [rRs] at h
    split at h
    · rename_i s ss' h1 h2
      injection h with h; subst h
      simp only [evRs]
      have h3 : evRs l e m fun ss => K (s :: ss) := rRs_ok h2 hK
      cases x with
      | tmp t => simp only [rR1] at h1; injection h1 with h1; subst h1; exact h3
      | cell t sz =>
        simp only [rR1] at h1
        simp only [evR1]
        split at h1
        · rename_i k o hk
          simp only [hk]
          split at h1
          · rename_i ob hob
            simp only [hob]
            exact rPart_ok h1 h3
          · cases h1
        · cases h1
    · cases h
structure RFn where
  x : XC
  N : Nat
  rs : List XR
  dep : Nat
inductive RE where
  | run (f : FuncId) (q : Bool) (r : RFn)
  | nat (f : FuncId) (q : Bool) (g : List SV → Mem → Option (List (SV × Mem)))
def RE.f : RE → FuncId
  | .run f _ _ | .nat f _ _ => f
def RE.q : RE → Bool
  | .run _ q _ | .nat _ q _ => q
def lookR (f : FuncId) : List RE → Option RE
  | [] => none
  | c :: G => bif Nat.beq c.f f then some c else lookR f G
def qfT (T : List RE) (f : FuncId) : Bool := match lookR f T with | some c => c.q | none => false
mutual
def refsOk (n : Nat) : SV → Bool
  | .ptr k _ | .row k _ _ _ => Nat.ble (k + 1) n
  | .agg cs | .tup cs | .fn _ cs | .bnd _ cs => refsOkL n cs
  | _ => true
def refsOkL (n : Nat) : List SV → Bool
  | [] => true
  | c :: cs => refsOk n c && refsOkL n cs
end
def roM (m : Mem) : Mem := m.map fun o => ⟨false, o.cells⟩
def finR (q : Bool) (m : Mem) (s : SV) (m' : Mem) : Option (List (SV × Mem)) :=
  bif q then
    bif s.plain then some [(s, m)] else
    bif (m'.drop m.length).all (fun o => o.own || o.cells.isEmpty) then some [(s, m ++ m'.drop m.length)] else none
  else
    bif s.plain && (m'.take m.length).all (fun o => refsOkL m.length o.cells) then some [(s, m'.take m.length)] else some [(s, m')]
def endsR : Exit → Bool
  | .normal | .ret => true
  | _ => false
def runF (T : List RE) (lf : Nat) : Nat → Callee
  | 0, _, _, _ => none
  | n + 1, f, args, m => match lookR f T with
    | some (.run _ q r) =>
      bif Nat.ble args.length r.N then
        match BT.args (BT.full r.dep) 0 args with
        | some e => bindO (rX (runF T lf n) (qfT T) lf r.x e (bif q then roM m else m)) fun o =>
          bif endsR o.1 then (match rRs r.rs o.2.1.get o.2.2 with | some ss => finR q m (pack ss) o.2.2 | none => none) else none
        | none => none
      else none
    | some (.nat _ _ g) => g args m
    | none => none
def runTr (T : List RE) (lf n : Nat) (f : FuncId) : Trans := fun args m k => match runF T lf n f args m with | some L => ∀ o ∈ L, k o.1 o.2 | none => False
def GT (T : List RE) (lf n : Nat) : List CEntry := T.map fun c => ⟨c.f, qfT T c.f, runTr T lf n c.f⟩
theorem lookR_f {f : FuncId} {c : RE} : ∀ {T : List RE}, lookR f T = some c → c.f = f ∧ c ∈ T
  | [], h => by simp [lookR] at h
  | d :: T, h => by
    unfold lookR at h
    cases hb : Nat.beq d.f f with
    | true =>
      simp only [hb, cond_true] at h
      injection h with h; subst h
      exact ⟨nbeq.1 hb, by simp⟩
    | false =>
      simp only [hb, cond_false] at h
      obtain ⟨h1, h2⟩ := lookR_f h
      exact ⟨h1, by simp [h2]⟩
theorem lookEx {f : RE} : ∀ {T : List RE}, f ∈ T → ∃ c2, lookR f.f T = some c2
  | [], h => by cases h
  | a :: T, h => by
    unfold lookR
    cases hb : Nat.beq a.f f.f with
    | true => exact ⟨a, rfl⟩
    | false =>
      simp only [cond_false]
      rcases List.mem_cons.1 h with rfl | h
      · rw [Nat.beq_refl] at hb; cases hb
      · exact lookEx h
theorem look_GT {T0 : List RE} {lf n : Nat} {f : FuncId} {c : RE} : ∀ {T : List RE}, lookR f T = some c → look f (T.map fun c => (⟨c.f, qfT T0 c.f, runTr T0 lf n c.f⟩ : CEntry)) = some ⟨f, qfT T0 f, runTr T0 lf n f⟩
  | [], h => by simp [lookR] at h
  | d :: T, h => by
    unfold lookR at h
    simp only [List.map_cons, look]
    cases hb : Nat.beq d.f f with
    | true =>
      have := nbeq.1 hb
      subst this
      simp
    | false =>
      simp only [hb, cond_false] at h
      rw [if_neg (nbeqf.1 hb)]
      exact look_GT h
/-- The table's functions are the program's. -/
def TOk (P : Program) (eff : List FuncId) (T : List RE) : Prop := ∀ c ∈ T, match c with
  | .run f _ r => FnX P f eff r.N r.x r.rs
  | .nat f q g => ∀ I : Inp, @Callable I P f q (fun args m k => match g args m with | some L => ∀ o ∈ L, k o.1 o.2 | none => False)
theorem TOk.nil {P : Program} {eff : List FuncId} : TOk P eff [] := fun c h => by cases h
theorem TOk.run {P : Program} {eff : List FuncId} {f : FuncId} {q : Bool} {N : Nat} {x : XC} {rs : List XR} {d : Nat} {T : List RE} (h : FnX P f eff N x rs) (hT : TOk P eff T) : TOk P eff (.run f q ⟨x, N, rs, d⟩ :: T) := fun c hc => by
  rcases List.mem_cons.1 hc with rfl | hc
  · exact h
  · exact hT c hc
theorem TOk.nat {P : Program} {eff : List FuncId} {f : FuncId} {q : Bool} {g : List SV → Mem → Option (List (SV × Mem))} {T : List RE} (h : ∀ I : Inp, @Callable I P f q (fun args m k => match g args m with | some L => ∀ o ∈ L, k o.1 o.2 | none => False)) (hT : TOk P eff T) : TOk P eff (.nat f q g :: T) := fun c hc => by
  rcases List.mem_cons.1 hc with rfl | hc
  · exact h
  · exact hT c hc
theorem TOk.enter {P : Program} {eff : List FuncId} {T : List RE} (hT : TOk P eff T) {f f' : FuncId} {q : Bool} {r : RFn} (h : lookR f T = some (.run f' q r)) : Enterable P f := by
  obtain ⟨h1, h2⟩ := lookR_f h
  have := hT _ h2
  simp only [RE.f] at h1
  subst h1
  exact FnX.enter this
/-- What is shown of an entry: a function of the program, or whatever may be called. -/
def RE.Holds [Inp] (P : Program) (c : RE) (f : FuncId) (q : Bool) (tr : Trans) : Prop := match c with
  | .run .. => Contract P f q tr
  | .nat .. => Callable P f q tr
theorem RE.Holds.callable [Inp] {P : Program} {c : RE} {f : FuncId} {q : Bool} {tr : Trans} (h : c.Holds P f q tr) : Callable P f q tr := by
  cases c with
  | run f' q' r => exact .inl h
  | nat f' q' g => exact h
theorem endsR_ok {ex : Exit} (h : endsR ex = true) : EndsX ex := by cases ex <;> simp only [endsR] at h <;> first | (cases h; done) | exact trivial
mutual
theorem refs_is {r t : List Loc} : ∀ {s : SV} {u : Value}, refsOk r.length s = true → s.Is (r ++ t) u → s.Is r u
  | .v x, u, _, h => by simpa only [SV.Is] using h
  | .any, u, _, h => by simp only [SV.Is]
  | .emp, u, _, h => by simpa only [SV.Is] using h
  | .ptr k o, u, hr, h => by
    simp only [refsOk] at hr
    have := Nat.le_of_ble_eq_true hr
    simp only [SV.Is] at h ⊢
    obtain ⟨l, h1, h2⟩ := h
    exact ⟨l, by rwa [List.getElem?_append_left (by omega)] at h1, h2⟩
  | .row k o n sz, u, hr, h => by
    simp only [refsOk] at hr
    have := Nat.le_of_ble_eq_true hr
    simp only [SV.Is] at h ⊢
    obtain ⟨l, c, h1, h2⟩ := h
    exact ⟨l, c, by rwa [List.getElem?_append_left (by omega)] at h1, h2⟩
  | .agg cs, u, hr, h => by
    simp only [refsOk] at hr
    simp only [SV.Is] at h ⊢
    obtain ⟨us, h1, h2⟩ := h
    exact ⟨us, h1, refsL_is hr h2⟩
  | .tup cs, u, hr, h => by
    simp only [refsOk] at hr
    simp only [SV.Is] at h ⊢
    obtain ⟨us, h1, h2⟩ := h
    exact ⟨us, h1, refsL_is hr h2⟩
  | .fn f cs, u, hr, h => by
    simp only [refsOk] at hr
    simp only [SV.Is] at h ⊢
    obtain ⟨us, h1, h2⟩ := h
    exact ⟨us, h1, refsL_is hr h2⟩
  | .bnd f cs, u, hr, h => by
    simp only [refsOk] at hr
    simp only [SV.Is] at h ⊢
    obtain ⟨us, h1, h2⟩ := h
    exact ⟨us, h1, refsL_is hr h2⟩
theorem refsL_is {r t : List Loc} : ∀ {s : List SV} {u : List Value}, refsOkL r.length s = true → SV.IsL (r ++ t) s u → SV.IsL r s u
  | [], u, _, h => by simpa only [SV.IsL] using h
  | c :: cs, u, hr, h => by
    simp only [refsOkL, Bool.and_eq_true] at hr
    simp only [SV.IsL] at h ⊢
    obtain ⟨x, y, h1, h2, h3⟩ := h
    exact ⟨x, y, h1, refs_is hr.1 h2, refsL_is hr.2 h3⟩
end
section
variable {base : Nat → Prop} {w0 W W1 : World} {r t : List Loc} {m m' : Mem}
/-- The first objects alone. -/
theorem St.first [Inp] (h : St base w0 (r ++ t) m' W) (hr : (m'.take r.length).all (fun o => refsOkL r.length o.cells) = true) : St base w0 r (m'.take r.length) W := by
  have hlen := h.len
  simp only [List.length_append] at hlen
  refine ⟨h.low, h.from_, h.inp, by simp; omega, fun k l o q1 q2 => ?_, fun k k' l l' o o' q1 q2 q3 q4 hne ho hal => ?_⟩
  · have hk : k < r.length := (List.getElem?_eq_some_iff.1 q1).1
    have q2' : m'[k]? = some o := by rw [List.getElem?_take, if_pos hk] at q2; exact q2
    obtain ⟨⟨c, T, fr, g1, g2, g3, g4⟩, g5, g6⟩ := h.obj k l o (by rw [List.getElem?_append_left hk]; exact q1) q2'
    have := List.all_eq_true.1 hr o (List.mem_of_getElem? q2)
    exact ⟨⟨c, T, fr, g1, g2, refsL_is this g3, g4⟩, g5, g6⟩
  · have hk : k < r.length := (List.getElem?_eq_some_iff.1 q1).1
    have hk' : k' < r.length := (List.getElem?_eq_some_iff.1 q2).1
    rw [List.getElem?_take, if_pos hk] at q3
    rw [List.getElem?_take, if_pos hk'] at q4
    exact h.sep k k' l l' o o' (by rw [List.getElem?_append_left hk]; exact q1) (by rw [List.getElem?_append_left hk']; exact q2) q3 q4 hne ho hal
/-- The caller's objects, and the callee's new ones. -/
theorem St.behind (I J : Inp) (h : @St I base w0 r m W) (h2 : @St J (fun k => W.heap.size ≤ k) W (r ++ t) m' W1) (hn : (m'.drop m.length).all (fun o => o.own || o.cells.isEmpty) = true) : @St I base w0 (r ++ t) (m ++ m'.drop m.length) W1 := by
  have hb : Below W.heap.size W W1 := (@St.low J _ _ _ _ _ h2).below
  have h1 := @St.below _ _ _ _ _ _ I h hb
  have hlen := @St.len I _ _ _ _ _ h
  have hlen2 := @St.len J _ _ _ _ _ h2
  simp only [List.length_append] at hlen2
  have split : ∀ (k : Nat) (l : Loc) (o : SObj), (r ++ t)[k]? = some l → (m ++ m'.drop m.length)[k]? = some o → (k < r.length ∧ r[k]? = some l ∧ m[k]? = some o) ∨ (r.length ≤ k ∧ (r ++ t)[k]? = some l ∧ m'[k]? = some o ∧ (o.own = true ∨ o.cells = [])) := by
    intro k l o hl ho
    rcases Nat.lt_or_ge k r.length with hk | hk
    · exact .inl ⟨hk, by rwa [List.getElem?_append_left hk] at hl, by rwa [List.getElem?_append_left (by omega)] at ho⟩
    · rw [List.getElem?_append_right (by omega), List.getElem?_drop, show m.length + (k - m.length) = k by omega] at ho
      refine .inr ⟨hk, hl, ho, ?_⟩
      have hmem : o ∈ m'.drop m.length := by
        refine List.mem_of_getElem? (i := k - m.length) ?_
        rw [List.getElem?_drop, show m.length + (k - m.length) = k by omega]; exact ho
      have := List.all_eq_true.1 hn o hmem
      simpa using this
  refine @St.mk I _ _ _ _ _ (@St.low I _ _ _ _ _ h1) (@St.from_ I _ _ _ _ _ h1) (@St.inp I _ _ _ _ _ h1) (by simp; omega) (fun k l o q1 q2 => ?_) (fun k k' l l' o o' q1 q2 q3 q4 hne ho hal => ?_)
  · rcases split k l o q1 q2 with ⟨_, p1, p2⟩ | ⟨_, p1, p2, p3⟩
    · exact (@St.obj I _ _ _ _ _ h1 k l o p1 p2).grow t
    · obtain ⟨g1, g2, g3⟩ := @St.obj J _ _ _ _ _ h2 k l o p1 p2
      exact ⟨g1, g2, fun hh => @St.from_ I _ _ _ _ _ h _ (Nat.le_trans (@St.low I _ _ _ _ _ h).size (g3 hh))⟩
  · rcases split k l o q1 q3 with ⟨a1, p1, p2⟩ | ⟨a1, p1, p2, p3⟩ <;> rcases split k' l' o' q2 q4 with ⟨b1, p4, p5⟩ | ⟨b1, p4, p5, p6⟩
    · exact @St.sep I _ _ _ _ _ h1 k k' l l' o o' p1 p4 p2 p5 hne ho hal
    · have hown : o'.own = true := by
        rcases p6 with h | h
        · exact h
        · rcases hal with h' | h'
          · exact h'
          · exact (h' h).elim
      have := (@St.obj J _ _ _ _ _ h2 k' l' o' p4 p5).own hown
      have := @St.locs _ _ _ _ _ I h l (List.mem_of_getElem? p1)
      omega
    · have := (@St.obj J _ _ _ _ _ h2 k l o p1 p2).own ho
      have := @St.locs _ _ _ _ _ I h l' (List.mem_of_getElem? p4)
      omega
    · exact @St.sep J _ _ _ _ _ h2 k k' l l' o o' p1 p4 p2 p5 hne ho hal
end
theorem kept_ext [I : Inp] {r r' : List Loc} (hk : I.keep = r.length) (h : Kp r r') : ∃ t, r' = r ++ t := by
  refine ⟨r'.drop r.length, ?_⟩
  apply List.ext_getElem?
  intro i
  by_cases hi : i < r.length
  · rw [List.getElem?_append_left hi]
    have := h i r[i] (by rw [hk]; exact hi) (List.getElem?_eq_getElem hi)
    rw [this, List.getElem?_eq_getElem hi]
  · rw [List.getElem?_append_right (by omega), List.getElem?_drop]
    congr 1
    omega
/-- The table's functions do what is reckoned. -/
theorem run_contract {P : Program} {eff : List FuncId} {T : List RE} (hT : TOk P eff T) (lf : Nat) : ∀ (n : Nat) (I : Inp) (f : FuncId) (c : RE), lookR f T = some c → @RE.Holds I P c f (qfT T f) (runTr T lf n f)
  | 0, I, f, .run f' q rf, hc => ⟨hT.enter hc, fun args m k base w0 W r vs ht _ _ => by unfold runTr runF at ht; exact ht.elim⟩
  | 0, I, f, .nat f' q g, hc => .inr ⟨fun args m k base w0 W r vs ht _ _ => by unfold runTr runF at ht; exact ht.elim⟩
  | n + 1, I, f, c, hc => by
    have hq : qfT T f = c.q := by unfold qfT; rw [hc]
    obtain ⟨hcf, hcm⟩ := lookR_f hc
    have hGok : ∀ J : Inp, @GOk J P (GT T lf n) := fun J d hd => by
      obtain ⟨c', hc', rfl⟩ := List.mem_map.1 hd
      have : ∃ c2, lookR c'.f T = some c2 := lookEx hc'
      obtain ⟨c2, hc2⟩ := this
      exact (run_contract hT lf n J _ c2 hc2).callable
    have hcl : ∀ J : Inp, @ClOk J (GT T lf n) (runF T lf n) (qfT T) := fun J => by
      constructor
      · intro f' args m L hL
        cases hl : lookR f' T with
        | none =>
          cases n with
          | zero => simp [runF] at hL
          | succ n => simp [runF, hl] at hL
        | some c2 =>
          refine ⟨_, look_GT hl, fun K hK => ?_⟩
          show (match runF T lf n f' args m with | some L => ∀ o ∈ L, K o.1 o.2 | none => False)
          rw [hL]
          exact hK
      · intro f' hf'
        have : ∃ c2, lookR f' T = some c2 := by
          unfold qfT at hf'
          split at hf'
          · exact ⟨_, by assumption⟩
          · cases hf'
        obtain ⟨c2, hc2⟩ := this
        exact ⟨_, look_GT hc2, hf'⟩
    have hcT := hT c hcm
    cases c with
    | nat f' q g =>
      simp only [RE.f] at hcf
      subst hcf
      have hcT' := hcT I
      rw [hq]
      simp only [RE.q]
      simp only [RE.Holds]
      have htr : runTr T lf (n + 1) f' = fun args m k => match g args m with | some L => ∀ o ∈ L, k o.1 o.2 | none => False := by
        funext args m k
        unfold runTr
        unfold runF
        simp only [hc]
      rw [htr]
      exact hcT'
    | run f' q rf =>
      simp only [RE.f] at hcf
      subst hcf
      rw [hq]
      simp only [RE.q, RE.Holds]
      refine ⟨hT.enter hc, fun args m k base w0 W r vs ht hst ha => ?_⟩
      unfold runTr at ht
      split at ht
      case h_2 => exact ht.elim
      rename_i L hL
      unfold runF at hL
      simp only [hc] at hL
      cases hb : Nat.ble args.length rf.N with
      | false => simp [hb] at hL
      | true =>
        simp only [hb, cond_true] at hL
        split at hL
        case h_2 => cases hL
        rename_i e he
        have hslots := BT.args_of (BT.full_get rf.dep) he
        obtain ⟨l, hx, hout⟩ := bindO_ok hL
        cases q with
        | false =>
          simp only [cond_false] at hx
          have hlen := @St.len I _ _ _ _ _ hst
          have hst2 : @St ⟨I.at_, m.length⟩ base w0 r m W := @St.mk ⟨I.at_, m.length⟩ _ _ _ _ _ (@St.low I _ _ _ _ _ hst) (@St.from_ I _ _ _ _ _ hst) (@St.inp I _ _ _ _ _ hst) hlen (@St.obj I _ _ _ _ _ hst) (@St.sep I _ _ _ _ _ hst)
          refine (@FnX.calls P _ eff rf.N rf.x rf.rs (GT T lf n) ⟨I.at_, m.length⟩ hcT (hGok _) _ _ _ _ _ _ _ hst2 ha (Nat.le_of_ble_eq_true hb) (fun s m' => ∃ L', finR false m s m' = some L' ∧ ∀ o ∈ L', k o.1 o.2) ?_).mono ?_
          · rw [hslots]
            refine @rX_ok ⟨I.at_, m.length⟩ _ _ _ _ (hGok _) _ _ (hcl _) lf rf.x _ _ _ _ hx fun o ho => ?_
            obtain ⟨L', h1, h2⟩ := hout o ho
            cases hen : endsR o.1 with
            | false => simp [hen] at h1
            | true =>
              simp only [hen, cond_true] at h1
              split at h1
              · rename_i ss hss
                exact ⟨endsR_ok hen, rRs_ok hss ⟨L', h1, fun o ho => ht o (h2 o ho)⟩⟩
              · cases h1
          · rintro en W1 ⟨s, m', r', u, ⟨L', hfin, hk⟩, rfl, hst1, hs, hkp⟩
            obtain ⟨t, rfl⟩ := @kept_ext ⟨I.at_, m.length⟩ _ _ hlen.symm hkp
            have hst1' : @St I base w0 (r ++ t) m' W1 := @St.mk I _ _ _ _ _ (@St.low ⟨I.at_, m.length⟩ _ _ _ _ _ hst1) (@St.from_ ⟨I.at_, m.length⟩ _ _ _ _ _ hst1) (@St.inp ⟨I.at_, m.length⟩ _ _ _ _ _ hst1) (@St.len ⟨I.at_, m.length⟩ _ _ _ _ _ hst1) (@St.obj ⟨I.at_, m.length⟩ _ _ _ _ _ hst1) (@St.sep ⟨I.at_, m.length⟩ _ _ _ _ _ hst1)
            unfold finR at hfin
            simp only [cond_false] at hfin
            cases hcnd : s.plain && (m'.take m.length).all (fun o => refsOkL m.length o.cells) with
            | true =>
              simp only [hcnd, cond_true] at hfin
              injection hfin with hfin; subst hfin
              simp only [Bool.and_eq_true] at hcnd
              have hk := hk _ (List.mem_singleton.2 rfl)
              rw [← hlen] at hcnd hk
              exact ⟨s, _, [], u, hk, rfl, by simpa using @St.first _ _ _ _ _ _ I hst1' hcnd.2, by simpa using plain_is hcnd.1 hs, fun h => by cases h⟩
            | false =>
              simp only [hcnd, cond_false] at hfin
              injection hfin with hfin; subst hfin
              exact ⟨s, m', t, u, hk _ (List.mem_singleton.2 rfl), rfl, hst1', hs, fun h => by cases h⟩
        | true =>
          simp only [cond_true] at hx
          have hlen := @St.len I _ _ _ _ _ hst
          have hst2 : @St ⟨I.at_, m.length⟩ (fun k => W.heap.size ≤ k) W r (roM m) W := by
            refine @St.mk ⟨I.at_, m.length⟩ _ _ _ _ _ (Low.refl _ _) (fun _ h => h) (fun a u ha => ⟨by have := cell_lt (@St.inp_at _ _ _ _ _ I hst _ _ ha); omega, @St.inp_at _ _ _ _ _ I hst _ _ ha⟩) (by simp [roM, hlen]) (fun k l o q1 q2 => ?_) (fun k k' l l' o o' q1 q2 q3 q4 hne ho hal => ?_)
            · simp only [roM, List.getElem?_map] at q2
              obtain ⟨o1, h1, rfl⟩ := Option.map_eq_some_iff.1 q2
              obtain ⟨⟨c, T', fr, g1, g2, g3, g4⟩, g5, g6⟩ := @St.obj I _ _ _ _ _ hst k l o1 q1 h1
              exact ⟨⟨c, T', fr, g1, g2, g3, fun h => by cases h⟩, g5, fun h => by cases h⟩
            · simp only [roM, List.getElem?_map] at q3
              obtain ⟨o1, h1, rfl⟩ := Option.map_eq_some_iff.1 q3
              cases ho
          refine (@FnX.calls P _ eff rf.N rf.x rf.rs (GT T lf n) ⟨I.at_, m.length⟩ hcT (hGok _) _ _ _ _ _ _ _ hst2 ha (Nat.le_of_ble_eq_true hb) (fun s m' => ∃ L', finR true m s m' = some L' ∧ ∀ o ∈ L', k o.1 o.2) ?_).mono ?_
          · rw [hslots]
            refine @rX_ok ⟨I.at_, m.length⟩ _ _ _ _ (hGok _) _ _ (hcl _) lf rf.x _ _ _ _ hx fun o ho => ?_
            obtain ⟨L', h1, h2⟩ := hout o ho
            cases hen : endsR o.1 with
            | false => simp [hen] at h1
            | true =>
              simp only [hen, cond_true] at h1
              split at h1
              · rename_i ss hss
                exact ⟨endsR_ok hen, rRs_ok hss ⟨L', h1, fun o ho => ht o (h2 o ho)⟩⟩
              · cases h1
          · rintro en W1 ⟨s, m', r', u, ⟨L', hfin, hk⟩, rfl, hst1, hs, hkp⟩
            obtain ⟨t, rfl⟩ := @kept_ext ⟨I.at_, m.length⟩ _ _ hlen.symm hkp
            have hb : Below W.heap.size W W1 := (@St.low ⟨I.at_, m.length⟩ _ _ _ _ _ hst1).below
            unfold finR at hfin
            simp only [cond_true] at hfin
            cases hcnd : s.plain with
            | true =>
              simp only [hcnd, cond_true] at hfin
              injection hfin with hfin; subst hfin
              exact ⟨s, m, [], u, hk _ (List.mem_singleton.2 rfl), rfl, by simpa using @St.below _ _ _ _ _ _ I hst hb, by simpa using plain_is hcnd hs, fun _ => @Same.below _ _ _ _ _ _ I hst hb⟩
            | false =>
              simp only [hcnd, cond_false] at hfin
              cases hcnd2 : (m'.drop m.length).all (fun o => o.own || o.cells.isEmpty) with
              | true =>
                simp only [hcnd2, cond_true] at hfin
                injection hfin with hfin; subst hfin
                exact ⟨s, _, t, u, hk _ (List.mem_singleton.2 rfl), rfl, St.behind I ⟨I.at_, m.length⟩ hst hst1 hcnd2, hs, fun _ => @Same.below _ _ _ _ _ _ I hst hb⟩
              | false => simp [hcnd2] at hfin
/-- Does the call come to this? -/
def runsTo (T : List RE) (lf n : Nat) (f : FuncId) (args : List Value) (s : SV) : Bool := match lookR f T with | some (.run ..) => (match runF T lf n f (args.map .v) [] with | some L => L.all fun o => o.1.plain && seq o.1 s | none => false) | _ => false
/-- A call whose arguments are plain, and known. -/
theorem Contract.runs [I : Inp] {P : Program} {eff : List FuncId} {T : List RE} (hT : TOk P eff T) (lf n : Nat) {f : FuncId} {args : List Value} {s : SV} (h : runsTo T lf n f args s = true) (tr : Trans) (htr : ∀ a m k, tr a m k → a = args.map .v ∧ k s m) : Contract P f true tr := by
  unfold runsTo at h
  split at h
  case h_2 => cases h
  rename_i f' q' rf hc
  refine ⟨hT.enter hc, fun a m k base w0 W r vs ht hst ha => ?_⟩
  obtain ⟨rfl, hk⟩ := htr a m k ht
  obtain rfl := isL_v_inv ha
  have hcon : @Contract (inpOf W) P f (qfT T f) (runTr T lf n f) := run_contract hT lf n (inpOf W) f _ hc
  refine (@Contract.calls (inpOf W) _ _ _ _ hcon (vs.map .v) [] (fun s' _ => s'.plain = true ∧ s' = s) (fun k => W.heap.size ≤ k) W W [] vs ?_ (St.inpOf W) (IsL_v vs)).mono ?_
  · unfold runTr
    split at h
    · rename_i L hL
      intro o ho
      have := List.all_eq_true.1 h o ho
      simp only [Bool.and_eq_true] at this
      exact ⟨this.1, seq_ok this.2⟩
    · cases h
  · rintro e W1 ⟨s', m', t, u, ⟨hp, rfl⟩, rfl, hst1, hs, _⟩
    have hb : Below W.heap.size W W1 := (@St.low (inpOf W) _ _ _ _ _ hst1).below
    exact ⟨s', m, [], u, hk, rfl, by simpa using hst.below hb, plain_is hp hs, fun _ => Same.below hst hb⟩
end Go.Proofs.Ytppndeoiifkkkaa.Sz
