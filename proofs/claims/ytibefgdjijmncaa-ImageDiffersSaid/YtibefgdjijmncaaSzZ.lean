/- Symbolic walks, part Z: calls whose arguments are known, reckoned by the kernel: whole functions. No condition. -/
import Derived.Test.YtibefgdjijmncaaSzS
namespace Go.Proofs.Ytibefgdjijmncaa.Sz
open Go.RowKit
set_option linter.unusedVariables false
set_option linter.unusedSimpArgs false
set_option maxHeartbeats 1000000
/-! ### What may come of it: some outcomes -/
def collect {α β : Type} (f : α → Option (List β)) : List α → Option (List β)
  | [] => some []
  | a :: l => match f a with
    | some x => (match l with
      | [] => some x
      | _ => (match collect f l with | some y => some (x ++ y) | none => none))
    | none => none
theorem collect_ok {α β : Type} {f : α → Option (List β)} : ∀ {l : List α} {r : List β}, collect f l = some r → ∀ a ∈ l, ∃ x, f a = some x ∧ ∀ b ∈ x, b ∈ r
  | [], r, h, a, ha => by simp at ha
  | c :: l, r, h, a, ha => by
    unfold collect at h
    split at h
    · rename_i x hx
      split at h
      · injection h with h; subst h
        simp at ha; subst ha
        exact ⟨x, hx, fun b hb => hb⟩
      · split at h
        · rename_i y hy
          injection h with h; subst h
          rcases List.mem_cons.1 ha with rfl | ha
          · exact ⟨x, hx, fun b hb => by simp [hb]⟩
          · obtain ⟨z, hz, hb⟩ := collect_ok hy a ha
            exact ⟨z, hz, fun b hbz => by simp [hb b hbz]⟩
        · cases h
    · cases h
def bindO {α β : Type} (L : Option (List α)) (f : α → Option (List β)) : Option (List β) := match L with | some l => collect f l | none => none
theorem bindO_ok {α β : Type} {L : Option (List α)} {f : α → Option (List β)} {r : List β} (h : bindO L f = some r) : ∃ l, L = some l ∧ ∀ a ∈ l, ∃ x, f a = some x ∧ ∀ b ∈ x, b ∈ r := by
  unfold bindO at h
  split at h
  · exact ⟨_, rfl, collect_ok h⟩
  · cases h
abbrev Callee := FuncId → List SV → Nat → MM → Option (List (SV × MM))
/-- Objects that may not be written are as they were. -/
def Keep (lo : Nat) (mm mm' : MM) : Prop := mm.n ≤ mm'.n ∧ ∀ i, i < lo → mm'.t.get i = mm.t.get i
theorem Keep.refl (lo : Nat) (mm : MM) : Keep lo mm mm := ⟨Nat.le_refl _, fun _ _ => rfl⟩
theorem Keep.trans {lo : Nat} {a b c : MM} (h : Keep lo a b) (h2 : Keep lo b c) : Keep lo a c := ⟨Nat.le_trans h.1 h2.1, fun i hi => (h2.2 i hi).trans (h.2 i hi)⟩
theorem bif_some' {α : Type} {c : Bool} {x : Option α} {y : α} (h : (bif c then x else none) = some y) : c = true ∧ x = some y := by
  cases c
  · cases h
  · exact ⟨rfl, h⟩
def oneP (s : SV) (o : Option MM) : Option (List (SV × MM)) := match o with | some m => some [(s, m)] | none => none
theorem oneP_ok {s : SV} {o : Option MM} {L : List (SV × MM)} (h : oneP s o = some L) : ∃ m, o = some m ∧ L = [(s, m)] := by
  unfold oneP at h
  split at h
  · injection h with h; exact ⟨_, rfl, h.symm⟩
  · cases h
theorem at_mem {lo : Nat} {mm : MM} : ∀ k o, mm.at_ lo k = some o → (mm.mem lo)[k]? = some o := fun k o h => by rw [mem_at]; exact h
def growsR (g : Look) (sz : Nat) : SV → Bool
  | .v (.slice _ n c) => Nat.beq n c
  | .row k o n s => Nat.beq s sz && (match g k with | some ob => ob.own && (Nat.beq (o + n * sz) ob.cells.length && !ob.isM) | none => false)
  | .zro => true
  | _ => false
theorem growsR_ok {m : Mem} {g : Look} (hg : ∀ k o, g k = some o → m[k]? = some o) {sz : Nat} {s : SV} (h : growsR g sz s = true) : grows m sz s := by
  unfold growsR at h
  unfold grows
  split at h
  · exact nbeq.1 h
  · rename_i k o n s
    simp only [Bool.and_eq_true] at h
    refine ⟨nbeq.1 h.1, ?_⟩
    have h2 := h.2
    split at h2
    · rename_i ob hob
      simp only [Bool.and_eq_true, Bool.not_eq_true'] at h2
      simp only [hg _ _ hob]
      exact ⟨⟨h2.1, nbeq.1 h2.2.1⟩, h2.2.2⟩
    · cases h2
  · trivial
  · cases h
def capR : SV → Bool
  | .v (.slice _ n c) => Nat.ble n c
  | _ => true
theorem capR_ok {s : SV} (h : capR s = true) : capOk s := by
  unfold capR at h
  unfold capOk
  split at h
  · exact Nat.le_of_ble_eq_true h
  · rename_i hne
    split
    · exact (hne _ _ _ rfl).elim
    · trivial
def killR (lo : Nat) (mm : MM) : SV → Option MM
  | .row k _ _ _ => mm.put lo k ⟨false, []⟩
  | _ => some mm
theorem killR_ok {lo : Nat} {mm mm' : MM} {s : SV} (h : killR lo mm s = some mm') : mm'.mem lo = kill (mm.mem lo) s ∧ mm'.n = mm.n ∧ ∀ i, i < lo → mm'.t.get i = mm.t.get i := by
  unfold killR at h
  unfold kill
  split at h
  · exact put_ok h
  · rename_i hne
    injection h with h; subst h
    split
    · exact (hne _ _ _ _ rfl).elim
    · exact ⟨rfl, rfl, fun _ _ => rfl⟩
def bindM (o : Option MM) (f : MM → Option MM) : Option MM := match o with | some m => f m | none => none
def aobR (o : Option SObj) : Option (KT × List (Value × SV)) := match o with | some ob => bif ob.own then anyOb ob else none | none => none
def ktB (a b : KT) : Bool := match a, b with
  | .int k, .int k' => keqB k k'
  | .str, .str => true
  | .bool, .bool => true
  | _, _ => false
theorem ktB_ok {a b : KT} (h : ktB a b = true) : a = b := by
  unfold ktB at h
  split at h
  · rw [keqB_ok h]
  · rfl
  · rfl
  · cases h
def rB (cl : Callee) (x : XB) (e : Env) (lo : Nat) (mm : MM) : Option (List (SV × MM)) :=
  match x with
  | .ofA x => match rA x e (mm.at_ lo) with | some s => some [(s, mm)] | none => none
  | .box x => match (x.get e).cells with | some cs => oneP (.ptr mm.n 0) (mm.push ⟨true, cs⟩) | none => none
  | .alloc zero => oneP (.ptr mm.n 0) (mm.push ⟨true, zero⟩)
  | .build zero parts => match fillS zero (parts.map fun p => (p.1, p.2.1, p.2.2.get e)) with | some cs => some [(.agg cs, mm)] | none => none
  | .buildSl sz len zero parts => match fillS zero (parts.map fun p => (p.1, p.2.1, p.2.2.get e)) with | some cs => oneP (.row mm.n 0 len sz) (mm.push ⟨true, cs⟩) | none => none
  | .store sz a x =>
    match a.get e, (x.get e).cells with
    | .ptr k o, some cs =>
      match mm.at_ lo k with
      | some ob => bif ob.own && (Nat.beq cs.length sz && (Nat.ble (o + sz) ob.cells.length && (cs.all SV.one && !ob.isM))) then oneP (.tup []) (mm.put lo k ⟨true, over ob.cells o cs⟩) else none
      | none => none
    | _, _ => none
  | .app sz bytes s x =>
    match rSl (mm.at_ lo) sz (s.get e), rSl (mm.at_ lo) sz (x.get e) with
    | some (n, xs), some (k, ys) =>
      bif Nat.beq k 0 then (bif capR (s.get e) then some [(s.get e, mm)] else none) else
      bif growsR (mm.at_ lo) sz (s.get e) && (Nat.beq xs.length (n * sz) && (Nat.beq ys.length (k * sz) && (ys.all SV.one && (Nat.ble (n + k) maxLen && Nat.ble ((n + k) * bytes) 140737488355328)))) then oneP (.row mm.n 0 (n + k) sz) (bindM (killR lo mm (s.get e)) fun m => m.push ⟨true, xs ++ ys⟩) else none
    | _, _ => none
  | .apps bytes s x =>
    match rSl (mm.at_ lo) 1 (s.get e), x.get e with
    | some (n, xs), .v (.string str) =>
      bif Nat.beq str.size 0 then (bif capR (s.get e) then some [(s.get e, mm)] else none) else
      bif growsR (mm.at_ lo) 1 (s.get e) && (Nat.beq xs.length n && (Nat.ble (n + str.size) maxLen && Nat.ble ((n + str.size) * bytes) 140737488355328)) then oneP (.row mm.n 0 (n + str.size) 1) (bindM (killR lo mm (s.get e)) fun m => m.push ⟨true, xs ++ bytesC str⟩) else none
    | _, _ => none
  | .cpy sz d x =>
    match d.get e, rSl (mm.at_ lo) sz (x.get e) with
    | .row k o n s, some (k2, ys) =>
      match mm.at_ lo k with
      | some ob => bif Nat.beq s sz && (ob.own && (Nat.ble (o + n * sz) ob.cells.length && (Nat.beq ys.length (k2 * sz) && (ys.all SV.one && !ob.isM)))) then oneP (.v (.int .i64 (min k2 n : Nat))) (mm.put lo k ⟨true, over ob.cells o (ys.take (min k2 n * sz))⟩) else none
      | none => none
    | _, _ => none
  | .mkSl sz bytes zero l c =>
    match l.get e, c.get e with
    | .v (.int _ n), .v (.int _ q) => bif nonneg n && (!ilt q n && (!ilt 281474976710656 ((bytes : Int) * q) && !ilt 9223372036854775807 q)) then oneP (.row mm.n 0 n.toNat sz) (mm.push ⟨true, (List.replicate n.toNat zero).flatten⟩) else none
    | _, _ => none
  | .s2b x => match x.get e with | .v (.string s) => oneP (.row mm.n 0 s.size 1) (mm.push ⟨false, bytesC s⟩) | _ => none
  | .call f args => match f.get e with | .fn f cap => cl f (args.map (XO.get e) ++ cap) lo mm | .bnd f fst => cl f (fst ++ args.map (XO.get e)) lo mm | _ => none
  | .mkMap kt => oneP (.mp mm.n) (mm.push (mapO kt []))
  | .mapUpd kt x i v => match x.get e, i.get e with
    | .mp k, .v key => (match aobR (mm.at_ lo k) with | some (kt', es) => bif ktB kt' kt && isK kt key then oneP (.tup []) (mm.put lo k (mapO kt (putM key (v.get e) es))) else none | none => none)
    | _, _ => none
  | .mapEnt kt zero x i => match x.get e, i.get e with
    | .mp k, .v key => (match aobR (mm.at_ lo k) with
      | some (kt', es) => bif ktB kt' kt && isK kt key then (match findM key 0 es with
        | some (j, s) => oneP (.tup [s, .v (.int .i64 j)]) (mm.put lo k (mapO kt es))
        | none => oneP (.tup [zero, .v (.int .i64 es.length)]) (mm.put lo k (mapO kt (es ++ [(key, zero)])))) else none
      | none => none)
    | _, _ => none
  | .entSt x j v => match x.get e, j.get e with
    | .mp k, .v (.int _ j) => (match aobR (mm.at_ lo k) with | some (kt, es) => bif inB j es.length then oneP (.tup []) (mm.put lo k (mapO kt (setM (v.get e) j.toNat es))) else none | none => none)
    | _, _ => none
/-- The callees are what the table says. -/
structure ClOk [Inp] (G : List CEntry) (cl : Callee) (qf : FuncId → Bool) : Prop where
  run : ∀ f args lo mm L, lo ≤ mm.n → cl f args lo mm = some L → ∃ c, look f G = some c ∧ ∀ K : SV → Mem → Prop, (∀ o ∈ L, Keep lo mm o.2 → K o.1 (o.2.mem lo)) → c.tr args (mm.mem lo) K
  q : ∀ f, qf f = true → ∃ c, look f G = some c ∧ c.q = true
theorem any_of {lo : Nat} {mm : MM} {k : Nat} {p : KT × List (Value × SV)} (h : aobR (mm.at_ lo k) = some p) : anyAt (mm.mem lo) k = some p := by
  unfold anyAt
  rw [mem_at]
  unfold aobR at h
  split at h
  · rename_i ob hob; simp only [hob]; exact h
  · cases h
theorem rB_ok [Inp] {G : List CEntry} {cl : Callee} {qf : FuncId → Bool} (hcl : ClOk G cl qf) {x : XB} {e : Env} {lo : Nat} {mm : MM} {L : List (SV × MM)} {K : SV → Mem → Prop} (hlo : lo ≤ mm.n) (h : rB cl x e lo mm = some L) (hK : ∀ o ∈ L, Keep lo mm o.2 → K o.1 (o.2.mem lo)) : evB G x e (mm.mem lo) K := by
  have pushK : ∀ {s : SV} {o : SObj}, oneP s (mm.push o) = some L → K s (mm.mem lo ++ [o]) := by
    intro s o h
    obtain ⟨m1, h1, rfl⟩ := oneP_ok h
    obtain ⟨e1, e2, e3⟩ := push_ok h1 hlo
    rw [← e1]
    exact hK _ (List.mem_singleton.2 rfl) ⟨by rw [e2]; omega, fun i hi => e3 i (by omega)⟩
  have putK : ∀ {s : SV} {k : Nat} {o : SObj}, oneP s (mm.put lo k o) = some L → K s ((mm.mem lo).set k o) := by
    intro s k o h
    obtain ⟨m1, h1, rfl⟩ := oneP_ok h
    obtain ⟨e1, e2, e3⟩ := put_ok h1
    rw [← e1]
    exact hK _ (List.mem_singleton.2 rfl) ⟨by rw [e2]; omega, e3⟩
  have killK : ∀ {s s0 : SV} {o : SObj}, oneP s (bindM (killR lo mm s0) fun m => m.push o) = some L → K s (kill (mm.mem lo) s0 ++ [o]) := by
    intro s s0 o h
    obtain ⟨m1, h1, rfl⟩ := oneP_ok h
    unfold bindM at h1
    split at h1
    · rename_i m2 h2
      obtain ⟨e1, e2, e3⟩ := killR_ok h2
      obtain ⟨f1, f2, f3⟩ := push_ok h1 (by omega : lo ≤ m2.n)
      rw [← e1, ← f1]
      exact hK _ (List.mem_singleton.2 rfl) ⟨by rw [f2, e2]; omega, fun i hi => (f3 i (by omega)).trans (e3 i hi)⟩
    · cases h1
  have same : ∀ {s : SV}, some [(s, mm)] = some L → K s (mm.mem lo) := by
    intro s h
    injection h with h; subst h
    exact hK _ (List.mem_singleton.2 rfl) (Keep.refl _ _)
  have ml : (mm.mem lo).length = mm.n := mem_len
  cases x <;> simp only [rB] at h <;> simp only [evB]
  case ofA x =>
    split at h
    · rename_i s hs
      exact rA_ok (K := fun s => K s (mm.mem lo)) at_mem hs (same h)
    · cases h
  case box x =>
    split at h
    · rename_i cs hcs
      simp only [hcs, ml]
      exact pushK h
    · cases h
  case alloc zero => rw [ml]; exact pushK h
  case build zero parts =>
    split at h
    · rename_i cs hcs
      simp only [hcs]
      exact same h
    · cases h
  case buildSl sz len zero parts =>
    split at h
    · rename_i cs hcs
      simp only [hcs, ml]
      exact pushK h
    · cases h
  case store sz a x =>
    split at h
    · rename_i k o cs h1 h2
      simp only [h1, h2]
      split at h
      · rename_i ob hob
        simp only [at_mem _ _ hob]
        obtain ⟨hc, h⟩ := bif_some' h
        simp only [Bool.and_eq_true, nbeq, ble_iff, Bool.not_eq_true'] at hc
        exact ⟨hc, putK h⟩
      · cases h
    · cases h
  case app sz bytes s x =>
    split at h
    · rename_i n xs k ys h1 h2
      simp only [rSl_ok at_mem h1, rSl_ok at_mem h2]
      cases hk : Nat.beq k 0 with
      | true =>
        simp only [hk, cond_true] at h
        rw [if_pos (nbeq.1 hk)]
        obtain ⟨hc, h⟩ := bif_some' h
        exact ⟨capR_ok hc, same h⟩
      | false =>
        simp only [hk, cond_false] at h
        rw [if_neg (nbeqf.1 hk), ml]
        obtain ⟨hc, h⟩ := bif_some' h
        simp only [Bool.and_eq_true, nbeq, ble_iff] at hc
        have hk0 := nbeqf.1 hk
        exact ⟨⟨growsR_ok at_mem hc.1, hc.2.1, hc.2.2.1, by omega, hc.2.2.2.1, hc.2.2.2.2⟩, killK h⟩
    · cases h
  case apps bytes s x =>
    split at h
    · rename_i n xs str h1 h2
      simp only [rSl_ok at_mem h1, h2]
      cases hk : Nat.beq str.size 0 with
      | true =>
        simp only [hk, cond_true] at h
        rw [if_pos (nbeq.1 hk)]
        obtain ⟨hc, h⟩ := bif_some' h
        exact ⟨capR_ok hc, same h⟩
      | false =>
        simp only [hk, cond_false] at h
        rw [if_neg (nbeqf.1 hk), ml]
        obtain ⟨hc, h⟩ := bif_some' h
        simp only [Bool.and_eq_true, nbeq, ble_iff] at hc
        exact ⟨⟨growsR_ok at_mem hc.1, hc.2.1, hc.2.2⟩, killK h⟩
    · cases h
  case cpy sz d x =>
    split at h
    · rename_i k o n s k2 ys h1 h2
      simp only [h1, rSl_ok at_mem h2]
      split at h
      · rename_i ob hob
        simp only [at_mem _ _ hob]
        obtain ⟨hc, h⟩ := bif_some' h
        simp only [Bool.and_eq_true, nbeq, ble_iff, Bool.not_eq_true'] at hc
        exact ⟨hc, putK h⟩
      · cases h
    · cases h
  case mkSl sz bytes zero l c =>
    split at h
    · rename_i h1 h2
      simp only [h1, h2, ml]
      obtain ⟨hc, h⟩ := bif_some' h
      simp only [Bool.and_eq_true, Bool.not_eq_true', ilt_ok, decide_eq_false_iff_not] at hc
      exact ⟨⟨nonneg_ok hc.1, by omega, by omega, by omega⟩, pushK h⟩
    · cases h
  case s2b x =>
    split at h
    · rename_i h1
      simp only [h1, ml]
      exact pushK h
    · cases h
  case call f args =>
    split at h
    · rename_i f cap h1
      simp only [h1]
      obtain ⟨c, h2, h3⟩ := hcl.run _ _ _ _ _ hlo h
      simp only [h2]
      exact h3 K hK
    · rename_i f cap h1
      simp only [h1]
      obtain ⟨c, h2, h3⟩ := hcl.run _ _ _ _ _ hlo h
      simp only [h2]
      exact h3 K hK
    · cases h
  case mkMap kt => rw [ml]; exact pushK h
  case mapUpd kt x i v =>
    unfold evUpd
    split at h
    · rename_i k key h1 h2
      simp only [h1, h2]
      split at h
      · rename_i kt' es h3
        simp only [any_of h3]
        obtain ⟨hc, h⟩ := bif_some' h
        simp only [Bool.and_eq_true] at hc
        exact ⟨⟨ktB_ok hc.1, hc.2⟩, putK h⟩
      · cases h
    · cases h
  case mapEnt kt zero x i =>
    unfold evEnt
    split at h
    · rename_i k key h1 h2
      simp only [h1, h2]
      split at h
      · rename_i kt' es h3
        simp only [any_of h3]
        obtain ⟨hc, h⟩ := bif_some' h
        simp only [Bool.and_eq_true] at hc
        refine ⟨⟨ktB_ok hc.1, hc.2⟩, ?_⟩
        split at h
        · rename_i j s h4
          simp only [h4]
          exact putK h
        · rename_i h4
          simp only [h4]
          exact putK h
      · cases h
    · cases h
  case entSt x j v =>
    unfold evEntSt
    split at h
    · rename_i k q j h1 h2
      simp only [h1, h2]
      split at h
      · rename_i kt' es h3
        simp only [any_of h3]
        obtain ⟨hc, h⟩ := bif_some' h
        exact ⟨inB_ok hc, putK h⟩
      · cases h
    · cases h
def quietR (qf : FuncId → Bool) (e : Env) : XB → Bool
  | .store .. | .app .. | .apps .. | .cpy .. | .mapUpd .. | .mapEnt .. | .entSt .. => false
  | .call f _ => match f.get e with | .fn f _ | .bnd f _ => qf f | _ => false
  | _ => true
/-! ### Regions -/
def putR (e : BT) : Option Nat → SV → Option BT
  | some d, s => e.set d s
  | none, _ => some e
theorem putR_ok {e e' : BT} {d : Option Nat} {s : SV} (h : putR e d s = some e') : putO e.get d s = e'.get := by
  cases d with
  | none => simp only [putR] at h; injection h with h; subst h; rfl
  | some d => exact BT.put_of h
theorem put_self {e : Env} {t : Nat} {s : SV} (h : e t = s) : put e t s = e := by
  funext x
  unfold put
  split
  · rename_i hx; rw [hx, h]
  · rfl
def rPut (dst : Option Nat) (e : BT) (o : SV × MM) : Option (List (BT × MM)) := match putR e dst o.1 with | some e' => some [(e', o.2)] | none => none
def bbeq : Bool → Bool → Bool
  | true, true | false, false => true
  | _, _ => false
theorem bbeq_ok {a b : Bool} : bbeq a b = true ↔ a = b := by cases a <;> cases b <;> simp [bbeq]
def rI (cl : Callee) (lo : Nat) (i : XI) (e : BT) (m : MM) : Option (List (BT × MM)) :=
  match i.grd with
  | none => bindO (rB cl i.op e.get lo m) (rPut i.dst e)
  | some (t, want) =>
    match e.get t with
    | .v (.bool b) => bif bbeq b want then bindO (rB cl i.op e.get lo m) (rPut i.dst e) else rPut i.dst e (.tup [], m)
    | .tup [] => rPut i.dst e (.tup [], m)
    | _ => none
theorem rI_ok [Inp] {G : List CEntry} {cl : Callee} {qf : FuncId → Bool} (hcl : ClOk G cl qf) {i : XI} {e : BT} {lo : Nat} {m : MM} {L : List (BT × MM)} {K : Env → Mem → Prop} (hlo : lo ≤ m.n) (h : rI cl lo i e m = some L) (hK : ∀ o ∈ L, Keep lo m o.2 → K o.1.get (o.2.mem lo)) : evI G i e.get (m.mem lo) K := by
  have run : bindO (rB cl i.op e.get lo m) (rPut i.dst e) = some L → evB G i.op e.get (m.mem lo) fun s m' => K (putO e.get i.dst s) m' := by
    intro h
    obtain ⟨l, h1, h2⟩ := bindO_ok h
    refine rB_ok hcl hlo h1 fun o ho hkp => ?_
    obtain ⟨x, h3, h4⟩ := h2 o ho
    unfold rPut at h3
    split at h3
    · rename_i e' he
      injection h3 with h3; subst h3
      rw [putR_ok he]
      exact hK _ (h4 _ (List.mem_singleton.2 rfl)) hkp
    · cases h3
  have skip : rPut i.dst e (.tup [], m) = some L → K (putO e.get i.dst (.tup [])) (m.mem lo) := by
    intro h
    unfold rPut at h
    split at h
    · rename_i e' he
      injection h with h; subst h
      rw [putR_ok he]
      exact hK _ (List.mem_singleton.2 rfl) (Keep.refl _ _)
    · cases h
  unfold rI at h
  unfold evI
  split at h
  · rename_i hg
    simp only [hg]
    exact run h
  · rename_i t want hg
    simp only [hg]
    split at h
    · rename_i b hb
      simp only [hb]
      cases hbw : bbeq b want with
      | true =>
        simp only [hbw, cond_true] at h
        rw [bbeq_ok] at hbw
        subst hbw
        rw [if_pos rfl, put_self hb]
        exact run h
      | false =>
        simp only [hbw, cond_false] at h
        have hbw' : ¬ b = want := fun hh => by rw [bbeq_ok.2 hh] at hbw; cases hbw
        have : b = !want := by cases b <;> cases want <;> simp_all
        rw [if_neg hbw', ← this, put_self hb]
        exact skip h
    · rename_i hb
      simp only [hb]
      exact skip h
    · cases h
def mapQ : List (Value × SV) → List (Value × SV) → Bool
  | [], [] => true
  | p :: ps, q :: qs => veq p.1 q.1 && (seq p.2 q.2 && mapQ ps qs)
  | _, _ => false
theorem mapQ_ok : ∀ {a b : List (Value × SV)}, mapQ a b = true → a = b
  | [], [], _ => rfl
  | [], _ :: _, h => by simp [mapQ] at h
  | _ :: _, [], h => by simp [mapQ] at h
  | (a, b) :: ps, (c, d) :: qs, h => by
    simp only [mapQ, Bool.and_eq_true] at h
    rw [veq_ok h.1, seq_ok h.2.1, mapQ_ok h.2.2]
def extQ : ExtV → ExtV → Bool
  | .no, .no => true
  | .map kt a, .map kt' b => ktB kt kt' && mapQ a b
  | _, _ => false
theorem extQ_ok {a b : ExtV} (h : extQ a b = true) : a = b := by
  unfold extQ at h
  split at h
  · rfl
  · simp only [Bool.and_eq_true] at h
    rw [ktB_ok h.1, mapQ_ok h.2]
  · cases h
def obQ (a b : SObj) : Bool := bbeq a.own b.own && (seqL a.cells b.cells && extQ a.x.v b.x.v)
theorem obQ_ok {a b : SObj} (h : obQ a b = true) : a = b := by
  obtain ⟨o, c⟩ := a
  rename_i x
  obtain ⟨o', c'⟩ := b
  rename_i x'
  obtain ⟨v⟩ := x
  obtain ⟨v'⟩ := x'
  unfold obQ at h
  simp only [Bool.and_eq_true, bbeq_ok] at h
  obtain ⟨rfl, h2, h3⟩ := h
  obtain rfl := seqL_ok h2
  obtain rfl : v = v' := extQ_ok h3
  rfl
def mtQ : MT → MT → Bool
  | .tip, .tip => true
  | .node o l r, .node o' l' r' => obQ o o' && (mtQ l l' && mtQ r r')
  | _, _ => false
theorem mtQ_ok : ∀ {a b : MT}, mtQ a b = true → a = b
  | .tip, .tip, _ => rfl
  | .tip, .node .., h => by simp [mtQ] at h
  | .node .., .tip, h => by simp [mtQ] at h
  | .node .., .node .., h => by
    simp only [mtQ, Bool.and_eq_true] at h
    rw [obQ_ok h.1, mtQ_ok h.2.1, mtQ_ok h.2.2]
def sameO (a b : BT × MM) : Bool := btq a.1 b.1 && (Nat.beq a.2.n b.2.n && mtQ a.2.t b.2.t)
theorem sameO_ok {a b : BT × MM} (h : sameO a b = true) : a = b := by
  unfold sameO at h
  simp only [Bool.and_eq_true, nbeq] at h
  obtain ⟨x1, ⟨t, n⟩⟩ := a
  obtain ⟨y1, ⟨t', n'⟩⟩ := b
  simp only at h
  rw [btq_ok h.1, h.2.1, mtQ_ok h.2.2]
def unionO (a b : List (BT × MM)) : List (BT × MM) := bif a.all (fun x => b.any (sameO x)) then b else a ++ b
theorem union_ok {a b : List (BT × MM)} : (∀ x ∈ a, x ∈ unionO a b) ∧ ∀ x ∈ b, x ∈ unionO a b := by
  unfold unionO
  cases h : a.all (fun x => b.any (sameO x)) with
  | true =>
    simp only [cond_true]
    refine ⟨fun x hx => ?_, fun x hx => hx⟩
    have := List.all_eq_true.1 h x hx
    obtain ⟨y, hy, he⟩ := List.any_eq_true.1 this
    rw [sameO_ok he]; exact hy
  | false =>
    simp only [cond_false]
    exact ⟨fun x hx => by simp [hx], fun x hx => by simp [hx]⟩
mutual
def rT (cl : Callee) (qf : FuncId → Bool) (lo : Nat) : XT → BT → MM → Option (List (BT × MM))
  | .done, e, m => some [(e, m)]
  | .seq i rest, e, m => bindO (rI cl lo i e m) fun o => rT cl qf lo rest o.1 o.2
  | .take i rest, e, m => bindO (rI cl lo i e m) fun o => rT cl qf lo rest o.1 o.2
  | .act q alts, e, m => rAlts cl qf lo q alts e m
  | .alt qs alts, e, m => rAlt2 cl qf lo alts qs e m
def rAlts (cl : Callee) (qf : FuncId → Bool) (lo : Nat) (q : Bool) : List (XI × XT) → BT → MM → Option (List (BT × MM))
  | [], _, _ => some []
  | (i, t) :: rest, e, m => bif q && !quietR qf e.get i.op then none else
    match bindO (rI cl lo i e m) (fun o => rT cl qf lo t o.1 o.2), rAlts cl qf lo q rest e m with
    | some a, some b => some (unionO a b)
    | _, _ => none
def rAlt2 (cl : Callee) (qf : FuncId → Bool) (lo : Nat) : List (XI × XT) → List Bool → BT → MM → Option (List (BT × MM))
  | [], _, _, _ => some []
  | (i, t) :: rest, qs, e, m => bif qs.headD false && !quietR qf e.get i.op then none else
    match bindO (rI cl lo i e m) (fun o => rT cl qf lo t o.1 o.2), rAlt2 cl qf lo rest qs.tail e m with
    | some a, some b => some (unionO a b)
    | _, _ => none
end
theorem quietR_ok [Inp] {G : List CEntry} {cl : Callee} {qf : FuncId → Bool} {x : XB} {e : Env} (hcl : ClOk G cl qf) (h : quietR qf e x = true) : quiet G e x = true := by
  cases x <;> simp only [quietR] at h <;> simp only [quiet]
  all_goals first | (cases h; done) | skip
  rename_i f args
  split at h
  · rename_i f cap h1
    simp only [h1]
    obtain ⟨c, h2, h3⟩ := hcl.q _ h
    simp only [h2, h3]
  · rename_i f cap h1
    simp only [h1]
    obtain ⟨c, h2, h3⟩ := hcl.q _ h
    simp only [h2, h3]
  · cases h
mutual
theorem rT_ok [Inp] {G : List CEntry} {cl : Callee} {qf : FuncId → Bool} (hcl : ClOk G cl qf) {lo : Nat} : ∀ (t : XT) {e : BT} {m : MM} {L : List (BT × MM)} {K : Env → Mem → Prop}, lo ≤ m.n → rT cl qf lo t e m = some L → (∀ o ∈ L, Keep lo m o.2 → K o.1.get (o.2.mem lo)) → evT G t e.get (m.mem lo) K
  | .done, e, m, L, K, hlo, h, hK => by
    simp only [rT] at h
    injection h with h; subst h
    exact hK _ (List.mem_singleton.2 rfl) (Keep.refl _ _)
  | .seq i rest, e, m, L, K, hlo, h, hK => by
    simp only [rT] at h
    simp only [evT]
    obtain ⟨l, h1, h2⟩ := bindO_ok h
    refine rI_ok hcl hlo h1 fun o ho hkp => ?_
    obtain ⟨x, h3, h4⟩ := h2 o ho
    exact rT_ok hcl rest (Nat.le_trans hlo hkp.1) h3 fun o ho hk2 => hK o (h4 o ho) (hkp.trans hk2)
  | .take i rest, e, m, L, K, hlo, h, hK => by
    simp only [rT] at h
    simp only [evT]
    obtain ⟨l, h1, h2⟩ := bindO_ok h
    refine rI_ok hcl hlo h1 fun o ho hkp => ?_
    obtain ⟨x, h3, h4⟩ := h2 o ho
    exact rT_ok hcl rest (Nat.le_trans hlo hkp.1) h3 fun o ho hk2 => hK o (h4 o ho) (hkp.trans hk2)
  | .act q alts, e, m, L, K, hlo, h, hK => by
    simp only [rT] at h
    simp only [evT]
    exact rAlts_ok hcl q alts hlo h hK
  | .alt qs alts, e, m, L, K, hlo, h, hK => by
    simp only [rT] at h
    simp only [evT]
    exact rAlt2_ok hcl alts qs hlo h hK
theorem rAlts_ok [Inp] {G : List CEntry} {cl : Callee} {qf : FuncId → Bool} (hcl : ClOk G cl qf) {lo : Nat} (q : Bool) : ∀ (alts : List (XI × XT)) {e : BT} {m : MM} {L : List (BT × MM)} {K : Env → Mem → Prop}, lo ≤ m.n → rAlts cl qf lo q alts e m = some L → (∀ o ∈ L, Keep lo m o.2 → K o.1.get (o.2.mem lo)) → evAlts G q alts e.get (m.mem lo) K
  | [], e, m, L, K, hlo, h, hK => by simp only [evAlts]
  | (i, t) :: rest, e, m, L, K, hlo, h, hK => by
    simp only [rAlts] at h
    simp only [evAlts]
    cases hq : q && !quietR qf e.get i.op with
    | true => simp [hq] at h
    | false =>
      simp only [hq, cond_false] at h
      split at h
      · rename_i a b ha hb
        injection h with h; subst h
        obtain ⟨u1, u2⟩ := @union_ok a b
        obtain ⟨l, h1, h2⟩ := bindO_ok ha
        refine ⟨⟨fun hqt => ?_, ?_⟩, rAlts_ok hcl q rest hlo hb fun o ho => hK o (u2 o ho)⟩
        · rw [hqt] at hq
          simp only [Bool.true_and, Bool.not_eq_false'] at hq
          exact quietR_ok hcl hq
        · refine rI_ok hcl hlo h1 fun o ho hkp => ?_
          obtain ⟨x, h3, h4⟩ := h2 o ho
          exact rT_ok hcl t (Nat.le_trans hlo hkp.1) h3 fun o ho hk2 => hK o (u1 o (h4 o ho)) (hkp.trans hk2)
      · cases h
theorem rAlt2_ok [Inp] {G : List CEntry} {cl : Callee} {qf : FuncId → Bool} (hcl : ClOk G cl qf) {lo : Nat} : ∀ (alts : List (XI × XT)) (qs : List Bool) {e : BT} {m : MM} {L : List (BT × MM)} {K : Env → Mem → Prop}, lo ≤ m.n → rAlt2 cl qf lo alts qs e m = some L → (∀ o ∈ L, Keep lo m o.2 → K o.1.get (o.2.mem lo)) → evAlt2 G alts qs e.get (m.mem lo) K
  | [], qs, e, m, L, K, hlo, h, hK => by simp only [evAlt2]
  | (i, t) :: rest, qs, e, m, L, K, hlo, h, hK => by
    simp only [rAlt2] at h
    simp only [evAlt2]
    cases hq : qs.headD false && !quietR qf e.get i.op with
    | true => rw [hq, cond_true] at h; cases h
    | false =>
      simp only [hq, cond_false] at h
      split at h
      · rename_i a b ha hb
        injection h with h; subst h
        obtain ⟨u1, u2⟩ := @union_ok a b
        obtain ⟨l, h1, h2⟩ := bindO_ok ha
        refine ⟨⟨fun hqt => ?_, ?_⟩, rAlt2_ok hcl rest qs.tail hlo hb fun o ho => hK o (u2 o ho)⟩
        · rw [hqt] at hq
          simp only [Bool.true_and, Bool.not_eq_false'] at hq
          exact quietR_ok hcl hq
        · refine rI_ok hcl hlo h1 fun o ho hkp => ?_
          obtain ⟨x, h3, h4⟩ := h2 o ho
          exact rT_ok hcl t (Nat.le_trans hlo hkp.1) h3 fun o ho hk2 => hK o (u1 o (h4 o ho)) (hkp.trans hk2)
      · cases h
end
/-! ### Code -/
abbrev Outc := Exit × BT × MM
def rLoop (f : BT → MM → Option (List Outc)) : Nat → BT → MM → Option (List Outc)
  | 0, _, _ => none
  | n + 1, e, m => bindO (f e m) fun o => match o.1 with
    | .normal => rLoop f n o.2.1 o.2.2
    | _ => some [o]
def rX (cl : Callee) (qf : FuncId → Bool) (fuel : Nat) (lo : Nat) : XC → BT → MM → Option (List Outc)
  | .skip, e, m => some [(.normal, e, m)]
  | .tree t, e, m => bindO (rT cl qf lo t e m) fun o => some [(.normal, o.1, o.2)]
  | .seq a b, e, m => bindO (rX cl qf fuel lo a e m) fun o => match o.1 with
    | .normal => rX cl qf fuel lo b o.2.1 o.2.2
    | _ => some [o]
  | .cond c a b, e, m => match c.get e.get with
    | .v (.bool t) => bif t then rX cl qf fuel lo a e m else rX cl qf fuel lo b e m
    | _ => none
  | .block id a, e, m => bindO (rX cl qf fuel lo a e m) fun o => match o.1 with
    | .exit i => bif Nat.beq i id then some [(.normal, o.2.1, o.2.2)] else some [o]
    | _ => some [o]
  | .loop a, e, m => rLoop (rX cl qf fuel lo a) fuel e m
  | .exit id, e, m => some [(.exit id, e, m)]
  | .ret, e, m => some [(.ret, e, m)]
theorem rX_ok [Inp] {P : Program} {N : Nat} {eff : List FuncId} {G : List CEntry} (hG : GOk P G) {cl : Callee} {qf : FuncId → Bool} (hcl : ClOk G cl qf) (fuel : Nat) {lo : Nat} :
    ∀ (x : XC) {e : BT} {m : MM} {L : List Outc} {Q : Post}, lo ≤ m.n → rX cl qf fuel lo x e m = some L → (∀ o ∈ L, Keep lo m o.2.2 → Q o.1 o.2.1.get (o.2.2.mem lo)) → evX P N eff G x e.get (m.mem lo) Q := by
  intro x
  induction x with
  | skip => intro e m L Q hlo h hQ; simp only [rX] at h; injection h with h; subst h; exact hQ _ (List.mem_singleton.2 rfl) (Keep.refl _ _)
  | exit id => intro e m L Q hlo h hQ; simp only [rX] at h; injection h with h; subst h; exact hQ _ (List.mem_singleton.2 rfl) (Keep.refl _ _)
  | ret => intro e m L Q hlo h hQ; simp only [rX] at h; injection h with h; subst h; exact hQ _ (List.mem_singleton.2 rfl) (Keep.refl _ _)
  | tree t =>
    intro e m L Q hlo h hQ
    simp only [rX] at h
    obtain ⟨l, h1, h2⟩ := bindO_ok h
    simp only [evX]
    refine rT_ok hcl t hlo h1 fun o ho hkp => ?_
    obtain ⟨x, h3, h4⟩ := h2 o ho
    injection h3 with h3; subst h3
    exact hQ _ (h4 _ (List.mem_singleton.2 rfl)) hkp
  | seq a b iha ihb =>
    intro e m L Q hlo h hQ
    simp only [rX] at h
    obtain ⟨l, h1, h2⟩ := bindO_ok h
    simp only [evX]
    refine iha hlo h1 fun o ho hkp => ?_
    obtain ⟨x, h3, h4⟩ := h2 o ho
    obtain ⟨ex, e', m'⟩ := o
    cases ex
    case normal =>
      simp only [thenQ]
      exact ihb (Nat.le_trans hlo hkp.1) h3 fun o ho hk2 => hQ o (h4 o ho) (hkp.trans hk2)
    all_goals
      simp only at h3
      injection h3 with h3; subst h3
      simp only [thenQ]
      exact hQ _ (h4 _ (List.mem_singleton.2 rfl)) hkp
  | cond c a b iha ihb =>
    intro e m L Q hlo h hQ
    simp only [rX] at h
    simp only [evX]
    split at h
    · rename_i t ht
      simp only [ht]
      cases t
      · simp only [Bool.false_eq_true, if_false]
        rw [upd_same ht]
        exact ihb hlo h hQ
      · simp only [if_true]
        rw [upd_same ht]
        exact iha hlo h hQ
    · cases h
  | block id a iha =>
    intro e m L Q hlo h hQ
    simp only [rX] at h
    obtain ⟨l, h1, h2⟩ := bindO_ok h
    simp only [evX]
    refine iha hlo h1 fun o ho hkp => ?_
    obtain ⟨x, h3, h4⟩ := h2 o ho
    obtain ⟨ex, e', m'⟩ := o
    cases ex
    case exit i =>
      simp only [blockQ]
      simp only at h3
      cases hb : Nat.beq i id with
      | true =>
        simp only [hb, cond_true] at h3
        injection h3 with h3; subst h3
        rw [if_pos (nbeq.1 hb)]
        exact hQ _ (h4 _ (List.mem_singleton.2 rfl)) hkp
      | false =>
        simp only [hb, cond_false] at h3
        injection h3 with h3; subst h3
        rw [if_neg (nbeqf.1 hb)]
        exact hQ _ (h4 _ (List.mem_singleton.2 rfl)) hkp
    all_goals
      simp only at h3
      injection h3 with h3; subst h3
      simp only [blockQ]
      exact hQ _ (h4 _ (List.mem_singleton.2 rfl)) hkp
  | loop a iha =>
    intro e m L Q hlo h hQ
    simp only [rX] at h
    simp only [evX]
    refine TX_unroll hG fuel ?_
    have key : ∀ (n : Nat) {e : BT} {m : MM} {L : List Outc}, lo ≤ m.n → rLoop (rX cl qf fuel lo a) n e m = some L → (∀ o ∈ L, Keep lo m o.2.2 → Q o.1 o.2.1.get (o.2.2.mem lo)) → unr P N eff G a Q n e.get (m.mem lo) := by
      intro n
      induction n with
      | zero => intro e m L _ h _; simp [rLoop] at h
      | succ n ihn =>
        intro e m L hlo h hQ
        simp only [rLoop] at h
        obtain ⟨l, h1, h2⟩ := bindO_ok h
        simp only [unr]
        refine iha hlo h1 fun o ho hkp => ?_
        obtain ⟨x, h3, h4⟩ := h2 o ho
        obtain ⟨ex, e', m'⟩ := o
        cases ex
        case normal =>
          simp only [thenQ]
          exact ihn (Nat.le_trans hlo hkp.1) h3 fun o ho hk2 => hQ o (h4 o ho) (hkp.trans hk2)
        all_goals
          simp only at h3
          injection h3 with h3; subst h3
          simp only [thenQ]
          exact hQ _ (h4 _ (List.mem_singleton.2 rfl)) hkp
    exact key fuel hlo h hQ
/-! ### Functions -/
def rR1 (x : XR) (e : Env) (g : Look) : Option SV :=
  match x with
  | .tmp t => some (e t)
  | .cell t sz => match e t with | .ptr k o => (match g k with | some ob => rPart ob.cells o sz | none => none) | _ => none
def rRs : List XR → Env → Look → Option (List SV)
  | [], _, _ => some []
  | x :: l, e, g => match rR1 x e g, rRs l e g with | some s, some ss => some (s :: ss) | _, _ => none
theorem rRs_ok {m : Mem} {g : Look} (hg : ∀ k o, g k = some o → m[k]? = some o) : ∀ {l : List XR} {e : Env} {ss : List SV} {K : List SV → Prop}, rRs l e g = some ss → K ss → evRs l e m K
  | [], e, ss, K, h, hK => by simp only [rRs] at h; injection h with h; subst h; exact hK
  | x :: l, e, ss, K, h, hK => by
    simp only [rRs] at h
    split at h
    · rename_i s ss' h1 h2
      injection h with h; subst h
      simp only [evRs]
      have h3 : evRs l e m fun ss => K (s :: ss) := rRs_ok hg h2 hK
      cases x with
      | tmp t => simp only [rR1] at h1; injection h1 with h1; subst h1; exact h3
      | cell t sz =>
        simp only [rR1] at h1
        simp only [evR1]
        split at h1
        · rename_i k o hk
          simp only [hk]
          split at h1
          · rename_i ob hob
            simp only [hg _ _ hob]
            exact rPart_ok h1 h3
          · cases h1
        · cases h1
    · cases h
structure RFn where
  x : XC
  N : Nat
  rs : List XR
  dep : Nat
abbrev Nat_ := List SV → Nat → MM → Option (List (SV × MM))
inductive RE where
  | run (f : FuncId) (q : Bool) (r : RFn)
  | nat (f : FuncId) (q : Bool) (g : Nat_)
def RE.f : RE → FuncId
  | .run f _ _ | .nat f _ _ => f
def RE.q : RE → Bool
  | .run _ q _ | .nat _ q _ => q
def lkR (f : FuncId) : List RE → Option RE
  | [] => none
  | c :: G => bif Nat.beq c.f f then some c else lkR f G
def qfT (T : List RE) (f : FuncId) : Bool := match lkR f T with | some c => c.q | none => false
def newOk (a : Nat) (m : MM) : Bool := (List.range' a (m.n - a)).all fun k => (m.t.get k).own || (m.t.get k).cells.isEmpty
def finR (q : Bool) (mm : MM) (s : SV) (mm' : MM) : Option (List (SV × MM)) :=
  bif q then
    bif s.plain then some [(s, mm)] else
    bif newOk mm.n mm' then some [(s, mm')] else none
  else some [(s, mm')]
def endsR : Exit → Bool
  | .normal | .ret => true
  | _ => false
def runF (T : List RE) (lf : Nat) : Nat → Callee
  | 0, _, _, _, _ => none
  | n + 1, f, args, lo, m => match lkR f T with
    | some (.run _ q r) =>
      bif Nat.ble args.length r.N then
        match BT.args (BT.full r.dep) 0 args with
        | some e => bindO (rX (runF T lf n) (qfT T) lf (bif q then m.n else lo) r.x e m) fun o =>
          bif endsR o.1 then (match rRs r.rs o.2.1.get (o.2.2.at_ (bif q then m.n else lo)) with | some ss => finR q m (pack ss) o.2.2 | none => none) else none
        | none => none
      else none
    | some (.nat _ _ g) => g args lo m
    | none => none
/-- What is reckoned of a call, as what a walk is told. -/
def natTr (g : Nat_) : Trans := fun args m k => ∃ lo mm L, lo ≤ mm.n ∧ m = mm.mem lo ∧ g args lo mm = some L ∧ ∀ o ∈ L, Keep lo mm o.2 → k o.1 (o.2.mem lo)
def runTr (T : List RE) (lf n : Nat) (f : FuncId) : Trans := natTr (runF T lf n f)
def GT (T : List RE) (lf n : Nat) : List CEntry := T.map fun c => ⟨c.f, qfT T c.f, runTr T lf n c.f⟩
theorem lkR_f {f : FuncId} {c : RE} : ∀ {T : List RE}, lkR f T = some c → c.f = f ∧ c ∈ T
  | [], h => by simp [lkR] at h
  | d :: T, h => by
    unfold lkR at h
    cases hb : Nat.beq d.f f with
    | true =>
      simp only [hb, cond_true] at h
      injection h with h; subst h
      exact ⟨nbeq.1 hb, by simp⟩
    | false =>
      simp only [hb, cond_false] at h
      obtain ⟨h1, h2⟩ := lkR_f h
      exact ⟨h1, by simp [h2]⟩
theorem lookEx {f : RE} : ∀ {T : List RE}, f ∈ T → ∃ c2, lkR f.f T = some c2
  | [], h => by cases h
  | a :: T, h => by
    unfold lkR
    cases hb : Nat.beq a.f f.f with
    | true => exact ⟨a, rfl⟩
    | false =>
      simp only [cond_false]
      rcases List.mem_cons.1 h with rfl | h
      · rw [Nat.beq_refl] at hb; cases hb
      · exact lookEx h
theorem look_GT {T0 : List RE} {lf n : Nat} {f : FuncId} {c : RE} : ∀ {T : List RE}, lkR f T = some c → look f (T.map fun c => (⟨c.f, qfT T0 c.f, runTr T0 lf n c.f⟩ : CEntry)) = some ⟨f, qfT T0 f, runTr T0 lf n f⟩
  | [], h => by simp [lkR] at h
  | d :: T, h => by
    unfold lkR at h
    simp only [List.map_cons, look]
    cases hb : Nat.beq d.f f with
    | true =>
      have := nbeq.1 hb
      subst this
      simp
    | false =>
      simp only [hb, cond_false] at h
      rw [if_neg (nbeqf.1 hb)]
      exact look_GT h
/-- The table's functions are the program's. -/
def TOk (P : Program) (eff : List FuncId) (T : List RE) : Prop := ∀ c ∈ T, match c with
  | .run f _ r => FnX P f eff r.N r.x r.rs
  | .nat f q g => ∀ I : Inp, @Callable I P f q (natTr g)
theorem TOk.nil {P : Program} {eff : List FuncId} : TOk P eff [] := fun c h => by cases h
theorem TOk.run {P : Program} {eff : List FuncId} {f : FuncId} {q : Bool} {N : Nat} {x : XC} {rs : List XR} {d : Nat} {T : List RE} (h : FnX P f eff N x rs) (hT : TOk P eff T) : TOk P eff (.run f q ⟨x, N, rs, d⟩ :: T) := fun c hc => by
  rcases List.mem_cons.1 hc with rfl | hc
  · exact h
  · exact hT c hc
theorem TOk.nat {P : Program} {eff : List FuncId} {f : FuncId} {q : Bool} {g : Nat_} {T : List RE} (h : ∀ I : Inp, @Callable I P f q (natTr g)) (hT : TOk P eff T) : TOk P eff (.nat f q g :: T) := fun c hc => by
  rcases List.mem_cons.1 hc with rfl | hc
  · exact h
  · exact hT c hc
theorem TOk.enter {P : Program} {eff : List FuncId} {T : List RE} (hT : TOk P eff T) {f f' : FuncId} {q : Bool} {r : RFn} (h : lkR f T = some (.run f' q r)) : Enterable P f := by
  obtain ⟨h1, h2⟩ := lkR_f h
  have := hT _ h2
  simp only [RE.f] at h1
  subst h1
  exact FnX.enter this
/-- What is shown of an entry: a function of the program, or whatever may be called. -/
def RE.Holds [Inp] (P : Program) (c : RE) (f : FuncId) (q : Bool) (tr : Trans) : Prop := match c with
  | .run .. => Contract P f q tr
  | .nat .. => Callable P f q tr
theorem RE.Holds.callable [Inp] {P : Program} {c : RE} {f : FuncId} {q : Bool} {tr : Trans} (h : c.Holds P f q tr) : Callable P f q tr := by
  cases c with
  | run f' q' r => exact .inl h
  | nat f' q' g => exact h
theorem endsR_ok {ex : Exit} (h : endsR ex = true) : EndsX ex := by cases ex <;> simp only [endsR] at h <;> first | (cases h; done) | exact trivial
section
variable {base : Nat → Prop} {w0 W W1 : World} {r t : List Loc} {m m' : Mem}
/-- The caller's objects, and the callee's new ones. -/
theorem St.behind (I J : Inp) (h : @St I base w0 r m W) (h2 : @St J (fun k => W.heap.size ≤ k) W (r ++ t) m' W1) (hn : ∀ (k : Nat) (o : SObj), m.length ≤ k → m'[k]? = some o → o.own = true ∨ o.cells = []) : @St I base w0 (r ++ t) (m ++ m'.drop m.length) W1 := by
  have hb : Below W.heap.size W W1 := (@St.low J _ _ _ _ _ h2).below
  have h1 := @St.below _ _ _ _ _ _ I h hb
  have hlen := @St.len I _ _ _ _ _ h
  have hlen2 := @St.len J _ _ _ _ _ h2
  simp only [List.length_append] at hlen2
  have split : ∀ (k : Nat) (l : Loc) (o : SObj), (r ++ t)[k]? = some l → (m ++ m'.drop m.length)[k]? = some o → (k < r.length ∧ r[k]? = some l ∧ m[k]? = some o) ∨ (r.length ≤ k ∧ (r ++ t)[k]? = some l ∧ m'[k]? = some o ∧ (o.own = true ∨ o.cells = [])) := by
    intro k l o hl ho
    rcases Nat.lt_or_ge k r.length with hk | hk
    · exact .inl ⟨hk, by rwa [List.getElem?_append_left hk] at hl, by rwa [List.getElem?_append_left (by omega)] at ho⟩
    · rw [List.getElem?_append_right (by omega), List.getElem?_drop, show m.length + (k - m.length) = k by omega] at ho
      exact .inr ⟨hk, hl, ho, hn k o (by omega) ho⟩
  obtain ⟨F, hF⟩ := @St.hid I _ _ _ _ _ h
  obtain ⟨F2, hF2⟩ := @St.hid J _ _ _ _ _ h2
  have newB : ∀ (k : Nat) (l : Loc) (o : SObj), (r ++ t)[k]? = some l → m'[k]? = some o → (o.own = true ∨ o.cells = []) → (o.own = true ∨ o.cells ≠ []) → o.own = true ∧ W.heap.size ≤ l.blk := by
    intro k l o q1 q2 q3 q4
    have how : o.own = true := by
      rcases q3 with h | h
      · exact h
      · rcases q4 with h' | h'
        · exact h'
        · exact (h' h).elim
    exact ⟨how, (@St.obj J _ _ _ _ _ h2 k l o q1 q2).own how⟩
  refine @St.mk I _ _ _ _ _ (@St.low I _ _ _ _ _ h1) (@St.from_ I _ _ _ _ _ h1) (@St.inp I _ _ _ _ _ h1) (by simp; omega) (fun k l o q1 q2 => ?_) (fun k k' l l' o o' q1 q2 q3 q4 hne ho hal => ?_)
    ⟨fun k => if k < r.length then F k else F2 k, fun k l o q1 q2 => ?_, fun k b hb' => ?_, fun k b hb' k' l o q1 q2 hal => ?_, fun k k' b hb1 hb2 => ?_⟩
  · rcases split k l o q1 q2 with ⟨_, p1, p2⟩ | ⟨_, p1, p2, p3⟩
    · exact (@St.obj I _ _ _ _ _ h1 k l o p1 p2).grow t
    · obtain ⟨g1, g2, g3, g4, g5⟩ := @St.obj J _ _ _ _ _ h2 k l o p1 p2
      exact ⟨g1, g2, fun hh => @St.from_ I _ _ _ _ _ h _ (Nat.le_trans (@St.low I _ _ _ _ _ h).size (g3 hh)), g4, g5⟩
  · rcases split k l o q1 q3 with ⟨a1, p1, p2⟩ | ⟨a1, p1, p2, p3⟩ <;> rcases split k' l' o' q2 q4 with ⟨b1, p4, p5⟩ | ⟨b1, p4, p5, p6⟩
    · exact @St.sep I _ _ _ _ _ h1 k k' l l' o o' p1 p4 p2 p5 hne ho hal
    · have := (newB k' l' o' p4 p5 p6 hal).2
      have := @St.locs _ _ _ _ _ I h l (List.mem_of_getElem? p1)
      omega
    · have := (newB k l o p1 p2 p3 (.inl ho)).2
      have := @St.locs _ _ _ _ _ I h l' (List.mem_of_getElem? p4)
      omega
    · exact @St.sep J _ _ _ _ _ h2 k k' l l' o o' p1 p4 p2 p5 hne ho hal
  · rcases split k l o q1 q2 with ⟨a1, p1, p2⟩ | ⟨a1, p1, p2, p3⟩
    · simp only [if_pos a1]
      refine HidIs.grow ?_ t
      cases ha : o.isA with
      | false => exact HidIs.not ha
      | true =>
        refine (hF.is k l o p1 p2).same hb.size fun b hb' => ?_
        rcases List.mem_cons.1 hb' with rfl | hb'
        · exact hb.block _ (@St.locs _ _ _ _ _ I h l (List.mem_of_getElem? p1))
        · exact hb.block _ (hF.base k b hb').2
    · simp only [if_neg (show ¬ k < r.length by omega)]
      exact hF2.is k l o p1 p2
  · split at hb'
    · exact ⟨(hF.base k b hb').1, Nat.lt_of_lt_of_le (hF.base k b hb').2 hb.size⟩
    · have := hF2.base k b hb'
      exact ⟨@St.from_ I _ _ _ _ _ h _ (Nat.le_trans (@St.low I _ _ _ _ _ h).size this.1), this.2⟩
  · rcases split k' l o q1 q2 with ⟨a1, p1, p2⟩ | ⟨a1, p1, p2, p3⟩
    · split at hb'
      · exact hF.far k b hb' k' l o p1 p2 hal
      · have := (hF2.base k b hb').1
        have := @St.locs _ _ _ _ _ I h l (List.mem_of_getElem? p1)
        omega
    · have := newB k' l o p1 p2 p3 hal
      split at hb'
      · have := (hF.base k b hb').2
        omega
      · exact hF2.far k b hb' k' l o p1 p2 hal
  · split at hb1
    · split at hb2
      · exact hF.apart k k' b hb1 hb2
      · have := (hF.base _ b hb1).2
        have := (hF2.base _ b hb2).1
        omega
    · split at hb2
      · have := (hF.base _ b hb2).2
        have := (hF2.base _ b hb1).1
        omega
      · exact hF2.apart k k' b hb1 hb2
end
theorem mem_ro {lo : Nat} {mm mm' : MM} (hlo : lo ≤ mm.n) (hk : Keep mm.n mm mm') : mm'.mem lo = mm.mem lo ++ (mm'.mem mm.n).drop (mm.mem lo).length := by
  apply List.ext_getElem?
  intro k
  rw [mem_at]
  by_cases h : k < mm.n
  · rw [List.getElem?_append_left (by rw [mem_len]; exact h), mem_at]
    unfold MM.at_
    rw [nblt, nblt, decide_eq_true h, decide_eq_true (Nat.lt_of_lt_of_le h hk.1), hk.2 k h]
  · rw [List.getElem?_append_right (by rw [mem_len]; omega), List.getElem?_drop, mem_len, show mm.n + (k - mm.n) = k by omega, mem_at]
    unfold MM.at_ vw
    rw [nblt, nblt, nblt, decide_eq_false (show ¬ k < lo by omega), decide_eq_false (show ¬ k < mm.n by omega)]
/-- The table's functions do what is reckoned. -/
theorem run_contract {P : Program} {eff : List FuncId} {T : List RE} (hT : TOk P eff T) (lf : Nat) : ∀ (n : Nat) (I : Inp) (f : FuncId) (c : RE), lkR f T = some c → @RE.Holds I P c f (qfT T f) (runTr T lf n f)
  | 0, I, f, .run f' q rf, hc => ⟨hT.enter hc, fun args m k base w0 W r vs ht _ _ => by obtain ⟨lo, mm, L, _, _, h, _⟩ := ht; cases h⟩
  | 0, I, f, .nat f' q g, hc => .inr ⟨fun args m k base w0 W r vs ht _ _ => by obtain ⟨lo, mm, L, _, _, h, _⟩ := ht; cases h⟩
  | n + 1, I, f, c, hc => by
    have hq : qfT T f = c.q := by unfold qfT; rw [hc]
    obtain ⟨hcf, hcm⟩ := lkR_f hc
    have hGok : ∀ J : Inp, @GOk J P (GT T lf n) := fun J d hd => by
      obtain ⟨c', hc', rfl⟩ := List.mem_map.1 hd
      obtain ⟨c2, hc2⟩ : ∃ c2, lkR c'.f T = some c2 := lookEx hc'
      exact (run_contract hT lf n J _ c2 hc2).callable
    have hcl : ∀ J : Inp, @ClOk J (GT T lf n) (runF T lf n) (qfT T) := fun J => by
      constructor
      · intro f' args lo mm L hlo hL
        cases hl : lkR f' T with
        | none =>
          cases n with
          | zero => simp [runF] at hL
          | succ n => simp [runF, hl] at hL
        | some c2 => exact ⟨_, look_GT hl, fun K hK => ⟨lo, mm, L, hlo, rfl, hL, hK⟩⟩
      · intro f' hf'
        have : ∃ c2, lkR f' T = some c2 := by
          unfold qfT at hf'
          split at hf'
          · exact ⟨_, by assumption⟩
          · cases hf'
        obtain ⟨c2, hc2⟩ := this
        exact ⟨_, look_GT hc2, hf'⟩
    have hcT := hT c hcm
    cases c with
    | nat f' q g =>
      simp only [RE.f] at hcf
      subst hcf
      have hcT' := hcT I
      rw [hq]
      simp only [RE.q]
      simp only [RE.Holds]
      have htr : runTr T lf (n + 1) f' = natTr g := by
        unfold runTr
        congr 1
        funext args lo mm
        unfold runF
        simp only [hc]
      rw [htr]
      exact hcT'
    | run f' q rf =>
      simp only [RE.f] at hcf
      subst hcf
      rw [hq]
      simp only [RE.q, RE.Holds]
      refine ⟨hT.enter hc, fun args m k base w0 W r vs ht hst ha => ?_⟩
      obtain ⟨lo, mm, L, hlo, rfl, hL, ht⟩ := ht
      unfold runF at hL
      simp only [hc] at hL
      cases hb : Nat.ble args.length rf.N with
      | false => simp [hb] at hL
      | true =>
        simp only [hb, cond_true] at hL
        split at hL
        case h_2 => cases hL
        rename_i e he
        have hslots := BT.args_of (BT.full_get rf.dep) he
        obtain ⟨l, hx, hout⟩ := bindO_ok hL
        have hlen := @St.len I _ _ _ _ _ hst
        cases q with
        | false =>
          simp only [cond_false] at hx hout
          have hst2 : @St ⟨I.at_, (mm.mem lo).length⟩ base w0 r (mm.mem lo) W := @St.mk ⟨I.at_, (mm.mem lo).length⟩ _ _ _ _ _ (@St.low I _ _ _ _ _ hst) (@St.from_ I _ _ _ _ _ hst) (@St.inp I _ _ _ _ _ hst) hlen (@St.obj I _ _ _ _ _ hst) (@St.sep I _ _ _ _ _ hst) (@St.hid I _ _ _ _ _ hst)
          refine (@FnX.calls P _ eff rf.N rf.x rf.rs (GT T lf n) ⟨I.at_, (mm.mem lo).length⟩ hcT (hGok _) _ _ _ _ _ _ _ hst2 ha (Nat.le_of_ble_eq_true hb) (fun s m' => k s m') ?_).mono ?_
          · rw [hslots]
            refine @rX_ok ⟨I.at_, (mm.mem lo).length⟩ _ _ _ _ (hGok _) _ _ (hcl _) lf lo rf.x _ _ _ _ hlo hx fun o ho hkp => ?_
            obtain ⟨L', h1, h2⟩ := hout o ho
            cases hen : endsR o.1 with
            | false => simp [hen] at h1
            | true =>
              simp only [hen, cond_true] at h1
              split at h1
              · rename_i ss hss
                unfold finR at h1
                simp only [cond_false] at h1
                injection h1 with h1; subst h1
                exact ⟨endsR_ok hen, rRs_ok at_mem hss (ht _ (h2 _ (List.mem_singleton.2 rfl)) hkp)⟩
              · cases h1
          · rintro en W1 ⟨s, m', r', u, hk, rfl, hst1, hs, hkp⟩
            obtain ⟨t, rfl⟩ := @kept_ext' ⟨I.at_, (mm.mem lo).length⟩ _ _ _ rfl hlen.symm hkp
            exact ⟨s, m', t, u, hk, rfl, @St.mk I _ _ _ _ _ (@St.low ⟨I.at_, (mm.mem lo).length⟩ _ _ _ _ _ hst1) (@St.from_ ⟨I.at_, (mm.mem lo).length⟩ _ _ _ _ _ hst1) (@St.inp ⟨I.at_, (mm.mem lo).length⟩ _ _ _ _ _ hst1) (@St.len ⟨I.at_, (mm.mem lo).length⟩ _ _ _ _ _ hst1) (@St.obj ⟨I.at_, (mm.mem lo).length⟩ _ _ _ _ _ hst1) (@St.sep ⟨I.at_, (mm.mem lo).length⟩ _ _ _ _ _ hst1) (@St.hid ⟨I.at_, (mm.mem lo).length⟩ _ _ _ _ _ hst1), hs, fun h => by cases h⟩
        | true =>
          simp only [cond_true] at hx hout
          have hst2 : @St ⟨I.at_, mm.n⟩ (fun k => W.heap.size ≤ k) W r (mm.mem mm.n) W := by
            have ro : ∀ (k : Nat) (o : SObj), (mm.mem mm.n)[k]? = some o → ∃ o1, (mm.mem lo)[k]? = some o1 ∧ o = ⟨false, o1.cells⟩ := by
              intro k o hk
              rw [mem_at] at hk
              unfold MM.at_ at hk
              rw [nblt] at hk
              by_cases h : k < mm.n
              · rw [decide_eq_true h, cond_true] at hk
                injection hk with hk
                refine ⟨vw lo k (mm.t.get k), by rw [mem_at]; unfold MM.at_; rw [nblt, decide_eq_true h, cond_true], ?_⟩
                rw [← hk]
                unfold vw
                rw [nblt, nblt, decide_eq_true h, cond_true]
                cases decide (k < lo) <;> rfl
              · rw [decide_eq_false h] at hk; cases hk
            refine @St.mk ⟨I.at_, mm.n⟩ _ _ _ _ _ (Low.refl _ _) (fun _ h => h) (fun a u ha => ⟨by have := cell_lt (@St.inp_at _ _ _ _ _ I hst _ _ ha); omega, @St.inp_at _ _ _ _ _ I hst _ _ ha⟩) (by rw [hlen, mem_len, mem_len]) (fun k l o q1 q2 => ?_) (fun k k' l l' o o' q1 q2 q3 q4 hne ho hal => ?_) ⟨fun _ => [], fun k l o q1 q2 => ?_, by simp, by simp, by simp⟩
            · obtain ⟨o1, h1, rfl⟩ := ro k o q2
              have hO := @St.obj I _ _ _ _ _ hst k l o1 q1 h1
              by_cases hc : o1.cells = []
              · rw [hc]; exact .dead hO.lt
              · refine ⟨fun _ _ => ?_, hO.fits, fun h => (by cases h), hO.lt, trivial⟩
                obtain ⟨c, T', fr, g1, g2, g3, g4⟩ := hO.there (notM hO hc) (.inr hc)
                exact ⟨c, T', fr, g1, g2, g3, fun h => by cases h⟩
            · obtain ⟨o1, h1, rfl⟩ := ro k o q3
              cases ho
            · obtain ⟨o1, h1, rfl⟩ := ro k o q2
              trivial
          refine (@FnX.calls P _ eff rf.N rf.x rf.rs (GT T lf n) ⟨I.at_, mm.n⟩ hcT (hGok _) _ _ _ _ _ _ _ hst2 ha (Nat.le_of_ble_eq_true hb) (fun s m' => ∃ mm', m' = mm'.mem mm.n ∧ Keep mm.n mm mm' ∧ ∃ L', finR true mm s mm' = some L' ∧ ∀ o ∈ L', Keep lo mm o.2 → k o.1 (o.2.mem lo)) ?_).mono ?_
          · rw [hslots]
            refine @rX_ok ⟨I.at_, mm.n⟩ _ _ _ _ (hGok _) _ _ (hcl _) lf mm.n rf.x _ _ _ _ (Nat.le_refl _) hx fun o ho hkp => ?_
            obtain ⟨L', h1, h2⟩ := hout o ho
            cases hen : endsR o.1 with
            | false => simp [hen] at h1
            | true =>
              simp only [hen, cond_true] at h1
              split at h1
              · rename_i ss hss
                exact ⟨endsR_ok hen, rRs_ok at_mem hss ⟨_, rfl, hkp, L', h1, fun o ho => ht o (h2 o ho)⟩⟩
              · cases h1
          · rintro en W1 ⟨s, m', r', u, ⟨mm', rfl, hkm, L', hfin, hk⟩, rfl, hst1, hs, hkp⟩
            obtain ⟨t, rfl⟩ := @kept_ext' ⟨I.at_, mm.n⟩ _ _ mm.n rfl (by rw [hlen, mem_len]) hkp
            have hb : Below W.heap.size W W1 := (@St.low ⟨I.at_, mm.n⟩ _ _ _ _ _ hst1).below
            unfold finR at hfin
            simp only [cond_true] at hfin
            cases hcnd : s.plain with
            | true =>
              simp only [hcnd, cond_true] at hfin
              injection hfin with hfin; subst hfin
              exact ⟨s, _, [], u, hk _ (List.mem_singleton.2 rfl) (Keep.refl _ _), rfl, by simpa using @St.below _ _ _ _ _ _ I hst hb, by simpa using plain_is hcnd hs, fun _ => @Same.below _ _ _ _ _ _ I hst hb⟩
            | false =>
              simp only [hcnd, cond_false] at hfin
              cases hcnd2 : newOk mm.n mm' with
              | true =>
                simp only [hcnd2, cond_true] at hfin
                injection hfin with hfin; subst hfin
                have hk1 := hk _ (List.mem_singleton.2 rfl) ⟨hkm.1, fun i hi => hkm.2 i (by omega)⟩
                have hbe := St.behind I ⟨I.at_, mm.n⟩ hst hst1 (fun q o hq ho => by
                  rw [mem_len] at hq
                  rw [mem_at] at ho
                  unfold MM.at_ vw at ho
                  rw [nblt, nblt, decide_eq_false (show ¬ q < mm.n by omega), cond_false] at ho
                  by_cases h : q < mm'.n
                  · rw [decide_eq_true h, cond_true] at ho
                    injection ho with ho; subst ho
                    have := List.all_eq_true.1 hcnd2 q (List.mem_range'.2 ⟨q - mm.n, by omega, by omega⟩)
                    simpa using this
                  · rw [decide_eq_false h] at ho; cases ho)
                rw [← mem_ro hlo hkm] at hbe
                exact ⟨s, _, t, u, hk1, rfl, hbe, hs, fun _ => @Same.below _ _ _ _ _ _ I hst hb⟩
              | false => simp [hcnd2] at hfin
/-- Does the call come to this? -/
def runsTo (T : List RE) (lf n : Nat) (f : FuncId) (args : List Value) (s : SV) : Bool := match lkR f T with | some (.run ..) => (match runF T lf n f (args.map .v) 0 ⟨.tip, 0⟩ with | some L => L.all fun o => o.1.plain && seq o.1 s | none => false) | _ => false
/-- A call whose arguments are plain, and known. -/
theorem Contract.runs [I : Inp] {P : Program} {eff : List FuncId} {T : List RE} (hT : TOk P eff T) (lf n : Nat) {f : FuncId} {args : List Value} {s : SV} (h : runsTo T lf n f args s = true) (tr : Trans) (htr : ∀ a m k, tr a m k → a = args.map .v ∧ k s m) : Contract P f true tr := by
  unfold runsTo at h
  split at h
  case h_2 => cases h
  rename_i f' q' rf hc
  refine ⟨hT.enter hc, fun a m k base w0 W r vs ht hst ha => ?_⟩
  obtain ⟨rfl, hk⟩ := htr a m k ht
  obtain rfl := isL_v_inv ha
  have hcon : @Contract (inpOf W) P f (qfT T f) (runTr T lf n f) := run_contract hT lf n (inpOf W) f _ hc
  split at h
  · rename_i L hL
    refine (@Contract.calls (inpOf W) _ _ _ _ hcon (vs.map .v) [] (fun s' _ => s'.plain = true ∧ s' = s) (fun k => W.heap.size ≤ k) W W [] vs ⟨0, ⟨.tip, 0⟩, L, Nat.le_refl _, rfl, hL, fun o ho _ => ?_⟩ (St.inpOf W) (IsL_v vs)).mono ?_
    · have := List.all_eq_true.1 h o ho
      simp only [Bool.and_eq_true] at this
      exact ⟨this.1, seq_ok this.2⟩
    · rintro e W1 ⟨s', m', t, u, ⟨hp, rfl⟩, rfl, hst1, hs, _⟩
      have hb : Below W.heap.size W W1 := (@St.low (inpOf W) _ _ _ _ _ hst1).below
      exact ⟨s', m, [], u, hk, rfl, by simpa using hst.below hb, plain_is hp hs, fun _ => Same.below hst hb⟩
  · cases h
def runsToA (T : List RE) (lf n : Nat) (f : FuncId) (args : List SV) (s : SV) : Bool := plainL args && (match lkR f T with | some (.run ..) => (match runF T lf n f args 0 ⟨.tip, 0⟩ with | some L => L.all fun o => o.1.plain && seq o.1 s | none => false) | _ => false)
/-- A call whose arguments hold nothing that was made, and are known as far as they matter. -/
theorem Contract.runsA [I : Inp] {P : Program} {eff : List FuncId} {T : List RE} (hT : TOk P eff T) (lf n : Nat) {f : FuncId} {args : List SV} {s : SV} (h : runsToA T lf n f args s = true) (tr : Trans) (htr : ∀ a m k, tr a m k → a = args ∧ k s m) : Contract P f true tr := by
  unfold runsToA at h
  rw [Bool.and_eq_true] at h
  obtain ⟨hpl, h⟩ := h
  split at h
  case h_2 => cases h
  rename_i f' q' rf hc
  refine ⟨hT.enter hc, fun a m k base w0 W r vs ht hst ha => ?_⟩
  obtain ⟨rfl, hk⟩ := htr a m k ht
  have hcon : @Contract (inpOf W) P f (qfT T f) (runTr T lf n f) := run_contract hT lf n (inpOf W) f _ hc
  split at h
  · rename_i L hL
    refine (@Contract.calls (inpOf W) _ _ _ _ hcon a [] (fun s' _ => s'.plain = true ∧ s' = s) (fun k => W.heap.size ≤ k) W W [] vs ⟨0, ⟨.tip, 0⟩, L, Nat.le_refl _, rfl, hL, fun o ho _ => ?_⟩ (St.inpOf W) (plainL_is hpl ha)).mono ?_
    · have := List.all_eq_true.1 h o ho
      simp only [Bool.and_eq_true] at this
      exact ⟨this.1, seq_ok this.2⟩
    · rintro e W1 ⟨s', m', t, u, ⟨hp, rfl⟩, rfl, hst1, hs, _⟩
      have hb : Below W.heap.size W W1 := (@St.low (inpOf W) _ _ _ _ _ hst1).below
      exact ⟨s', m, [], u, hk, rfl, by simpa using hst.below hb, plain_is hp hs, fun _ => Same.below hst hb⟩
  · cases h
end Go.Proofs.Ytibefgdjijmncaa.Sz
