/- Walks and plain facts for the law ImageParses, part MIPG. No condition. -/
import Derived.Test.YtibefgdjijmncaaMIPF
import Derived.Test.YtibefgdjijmncaaMIPD
import Derived.Test.YtibefgdjijmncaaMIPE
set_option linter.unusedVariables false
set_option linter.unusedSimpArgs false
section
namespace Go.Proofs.Ytibefgdjijmncaa.Sz
open Go.RowKit
set_option maxHeartbeats 1000000
def collect {α β : Type} (f : α → Option (List β)) : List α → Option (List β)
  | [] => some []
  | a :: l => match f a with
    | some x => (match l with
      | [] => some x
      | _ => (match collect f l with | some y => some (x ++ y) | none => none))
    | none => none
theorem collect_ok {α β : Type} {f : α → Option (List β)} : ∀ {l : List α} {r : List β}, collect f l = some r → ∀ a ∈ l, ∃ x, f a = some x ∧ ∀ b ∈ x, b ∈ r
  | [], r, h, a, ha => by simp at ha
  | c :: l, r, h, a, ha => by
    unfold collect at h
    split at h
    · rename_i x hx
      split at h
      · injection h with h; subst h
        simp at ha; subst ha
        exact ⟨x, hx, fun b hb => hb⟩
      · split at h
        · rename_i y hy
          injection h with h; subst h
          rcases List.mem_cons.1 ha with rfl | ha
          · exact ⟨x, hx, fun b hb => by simp [hb]⟩
          · obtain ⟨z, hz, hb⟩ := collect_ok hy a ha
            exact ⟨z, hz, fun b hbz => by simp [hb b hbz]⟩
        · cases h
    · cases h
def bindO {α β : Type} (L : Option (List α)) (f : α → Option (List β)) : Option (List β) := match L with | some l => collect f l | none => none
theorem bindO_ok {α β : Type} {L : Option (List α)} {f : α → Option (List β)} {r : List β} (h : bindO L f = some r) : ∃ l, L = some l ∧ ∀ a ∈ l, ∃ x, f a = some x ∧ ∀ b ∈ x, b ∈ r := by
  unfold bindO at h
  split at h
  · exact ⟨_, rfl, collect_ok h⟩
  · cases h
abbrev Callee := FuncId → List SV → Nat → MM → Option (List (SV × MM))
def Keep (lo : Nat) (mm mm' : MM) : Prop := mm.n ≤ mm'.n ∧ ∀ i, i < lo → mm'.t.get i = mm.t.get i
theorem Keep.refl (lo : Nat) (mm : MM) : Keep lo mm mm := ⟨Nat.le_refl _, fun _ _ => rfl⟩
theorem Keep.trans {lo : Nat} {a b c : MM} (h : Keep lo a b) (h2 : Keep lo b c) : Keep lo a c := ⟨Nat.le_trans h.1 h2.1, fun i hi => (h2.2 i hi).trans (h.2 i hi)⟩
theorem bif_some' {α : Type} {c : Bool} {x : Option α} {y : α} (h : (bif c then x else none) = some y) : c = true ∧ x = some y := by
  cases c
  · cases h
  · exact ⟨rfl, h⟩
def oneP (s : SV) (o : Option MM) : Option (List (SV × MM)) := match o with | some m => some [(s, m)] | none => none
theorem oneP_ok {s : SV} {o : Option MM} {L : List (SV × MM)} (h : oneP s o = some L) : ∃ m, o = some m ∧ L = [(s, m)] := by
  unfold oneP at h
  split at h
  · injection h with h; exact ⟨_, rfl, h.symm⟩
  · cases h
theorem at_mem {lo : Nat} {mm : MM} : ∀ k o, mm.at_ lo k = some o → (mm.mem lo)[k]? = some o := fun k o h => by rw [mem_at]; exact h
def growsR (g : Look) (sz : Nat) : SV → Bool
  | .v (.slice _ n c) => Nat.beq n c
  | .row k o n s => Nat.beq s sz && (match g k with | some ob => ob.own && (Nat.beq (o + n * sz) ob.cells.length && !ob.isM) | none => false)
  | .zro => true
  | _ => false
theorem growsR_ok {m : Mem} {g : Look} (hg : ∀ k o, g k = some o → m[k]? = some o) {sz : Nat} {s : SV} (h : growsR g sz s = true) : grows m sz s := by
  unfold growsR at h
  unfold grows
  split at h
  · exact nbeq.1 h
  · rename_i k o n s
    simp only [Bool.and_eq_true] at h
    refine ⟨nbeq.1 h.1, ?_⟩
    have h2 := h.2
    split at h2
    · rename_i ob hob
      simp only [Bool.and_eq_true, Bool.not_eq_true'] at h2
      simp only [hg _ _ hob]
      exact ⟨⟨h2.1, Nat.le_of_eq (nbeq.1 h2.2.1)⟩, h2.2.2⟩
    · cases h2
  · trivial
  · cases h
def capR : SV → Bool
  | .v (.slice _ n c) => Nat.ble n c
  | _ => true
theorem capR_ok {s : SV} (h : capR s = true) : capOk s := by
  unfold capR at h
  unfold capOk
  split at h
  · exact Nat.le_of_ble_eq_true h
  · rename_i hne
    split
    · exact (hne _ _ _ rfl).elim
    · trivial
def killR (lo : Nat) (mm : MM) : SV → Option MM
  | .row k _ _ _ => mm.put lo k ⟨false, []⟩
  | _ => some mm
theorem killR_ok {lo : Nat} {mm mm' : MM} {s : SV} (h : killR lo mm s = some mm') : mm'.mem lo = kill (mm.mem lo) s ∧ mm'.n = mm.n ∧ ∀ i, i < lo → mm'.t.get i = mm.t.get i := by
  unfold killR at h
  unfold kill
  split at h
  · exact put_ok h
  · rename_i hne
    injection h with h; subst h
    split
    · exact (hne _ _ _ _ rfl).elim
    · exact ⟨rfl, rfl, fun _ _ => rfl⟩
def bindM (o : Option MM) (f : MM → Option MM) : Option MM := match o with | some m => f m | none => none
def aobR (o : Option SObj) : Option (KT × List (Value × SV)) := match o with | some ob => bif ob.own then anyOb ob else none | none => none
def ktB (a b : KT) : Bool := match a, b with
  | .int k, .int k' => keqB k k'
  | .str, .str => true
  | .bool, .bool => true
  | _, _ => false
theorem ktB_ok {a b : KT} (h : ktB a b = true) : a = b := by
  unfold ktB at h
  split at h
  · rw [keqB_ok h]
  · rfl
  · rfl
  · cases h
def rB (cl : Callee) (x : XB) (e : Env) (lo : Nat) (mm : MM) : Option (List (SV × MM)) :=
  match x with
  | .ofA x => match rA x e (mm.at_ lo) with | some s => some [(s, mm)] | none => none
  | .box x => match (x.get e).cells with | some cs => oneP (.ptr mm.n 0) (mm.push ⟨true, cs⟩) | none => none
  | .alloc zero => oneP (.ptr mm.n 0) (mm.push ⟨true, zero⟩)
  | .build zero parts => match fillS zero (parts.map fun p => (p.1, p.2.1, p.2.2.get e)) with | some cs => some [(.agg cs, mm)] | none => none
  | .buildSl sz len zero parts => match fillS zero (parts.map fun p => (p.1, p.2.1, p.2.2.get e)) with | some cs => oneP (.row mm.n 0 len sz) (mm.push ⟨true, cs⟩) | none => none
  | .store sz a x =>
    match a.get e, (x.get e).cells with
    | .ptr k o, some cs =>
      match mm.at_ lo k with
      | some ob => bif ob.own && (Nat.beq cs.length sz && (Nat.ble (o + sz) ob.cells.length && (cs.all SV.one && !ob.isM))) then oneP (.tup []) (mm.put lo k ⟨true, over ob.cells o cs⟩) else none
      | none => none
    | _, _ => none
  | .app sz bytes s x =>
    match rSl (mm.at_ lo) sz (s.get e), rSl (mm.at_ lo) sz (x.get e) with
    | some (n, xs), some (k, ys) =>
      bif Nat.beq k 0 then (bif capR (s.get e) then some [(s.get e, mm)] else none) else
      bif growsR (mm.at_ lo) sz (s.get e) && (Nat.beq xs.length (n * sz) && (Nat.beq ys.length (k * sz) && (ys.all SV.one && (Nat.ble (n + k) maxLen && Nat.ble ((n + k) * bytes) 140737488355328)))) then oneP (.row mm.n 0 (n + k) sz) (bindM (killR lo mm (s.get e)) fun m => m.push ⟨true, xs ++ ys⟩) else none
    | _, _ => none
  | .apps bytes s x =>
    match rSl (mm.at_ lo) 1 (s.get e), x.get e with
    | some (n, xs), .v (.string str) =>
      bif Nat.beq str.size 0 then (bif capR (s.get e) then some [(s.get e, mm)] else none) else
      bif growsR (mm.at_ lo) 1 (s.get e) && (Nat.beq xs.length n && (Nat.ble (n + str.size) maxLen && Nat.ble ((n + str.size) * bytes) 140737488355328)) then oneP (.row mm.n 0 (n + str.size) 1) (bindM (killR lo mm (s.get e)) fun m => m.push ⟨true, xs ++ bytesC str⟩) else none
    | _, _ => none
  | .cpy sz d x =>
    match d.get e, rSl (mm.at_ lo) sz (x.get e) with
    | .row k o n s, some (k2, ys) =>
      match mm.at_ lo k with
      | some ob => bif Nat.beq s sz && (ob.own && (Nat.ble (o + n * sz) ob.cells.length && (Nat.beq ys.length (k2 * sz) && (ys.all SV.one && !ob.isM)))) then oneP (.v (.int .i64 (min k2 n : Nat))) (mm.put lo k ⟨true, over ob.cells o (ys.take (min k2 n * sz))⟩) else none
      | none => none
    | _, _ => none
  | .mkSl sz bytes zero l c =>
    match l.get e, c.get e with
    | .v (.int _ n), .v (.int _ q) => bif nonneg n && (!ilt q n && (!ilt 281474976710656 ((bytes : Int) * q) && !ilt 9223372036854775807 q)) then oneP (.row mm.n 0 n.toNat sz) (mm.push ⟨true, (List.replicate n.toNat zero).flatten⟩) else none
    | _, _ => none
  | .s2b x => match x.get e with | .v (.string s) => oneP (.row mm.n 0 s.size 1) (mm.push ⟨false, bytesC s⟩) | _ => none
  | .call f args => match f.get e with | .fn f cap => cl f (args.map (XO.get e) ++ cap) lo mm | .bnd f fst => cl f (fst ++ args.map (XO.get e)) lo mm | _ => none
  | .mkMap kt => oneP (.mp mm.n) (mm.push (mapO kt []))
  | .mapUpd kt x i v => match x.get e, i.get e with
    | .mp k, .v key => (match aobR (mm.at_ lo k) with | some (kt', es) => bif ktB kt' kt && isK kt key then oneP (.tup []) (mm.put lo k (mapO kt (putM key (v.get e) es))) else none | none => none)
    | _, _ => none
  | .mapEnt kt zero x i => match x.get e, i.get e with
    | .mp k, .v key => (match aobR (mm.at_ lo k) with
      | some (kt', es) => bif ktB kt' kt && isK kt key then (match findM key 0 es with
        | some (j, s) => oneP (.tup [s, .v (.int .i64 j)]) (mm.put lo k (mapO kt es))
        | none => oneP (.tup [zero, .v (.int .i64 es.length)]) (mm.put lo k (mapO kt (es ++ [(key, zero)])))) else none
      | none => none)
    | _, _ => none
  | .entSt x j v => match x.get e, j.get e with
    | .mp k, .v (.int _ j) => (match aobR (mm.at_ lo k) with | some (kt, es) => bif inB j es.length then oneP (.tup []) (mm.put lo k (mapO kt (setM (v.get e) j.toNat es))) else none | none => none)
    | _, _ => none
structure ClOk [Inp] (G : List CEntry) (cl : Callee) (qf : FuncId → Bool) : Prop where
  run : ∀ f args lo mm L, lo ≤ mm.n → cl f args lo mm = some L → ∃ c, look f G = some c ∧ ∀ K : SV → Mem → Prop, (∀ o ∈ L, Keep lo mm o.2 → K o.1 (o.2.mem lo)) → c.tr args (mm.mem lo) K
  q : ∀ f, qf f = true → ∃ c, look f G = some c ∧ c.q = true
theorem any_of {lo : Nat} {mm : MM} {k : Nat} {p : KT × List (Value × SV)} (h : aobR (mm.at_ lo k) = some p) : anyAt (mm.mem lo) k = some p := by
  unfold anyAt
  rw [mem_at]
  unfold aobR at h
  split at h
  · rename_i ob hob; simp only [hob]; exact h
  · cases h
theorem rB_ok [Inp] {G : List CEntry} {cl : Callee} {qf : FuncId → Bool} (hcl : ClOk G cl qf) {x : XB} {e : Env} {lo : Nat} {mm : MM} {L : List (SV × MM)} {K : SV → Mem → Prop} (hlo : lo ≤ mm.n) (h : rB cl x e lo mm = some L) (hK : ∀ o ∈ L, Keep lo mm o.2 → K o.1 (o.2.mem lo)) : evB G x e (mm.mem lo) K := by
  have pushK : ∀ {s : SV} {o : SObj}, oneP s (mm.push o) = some L → K s (mm.mem lo ++ [o]) := by
    intro s o h
    obtain ⟨m1, h1, rfl⟩ := oneP_ok h
    obtain ⟨e1, e2, e3⟩ := push_ok h1 hlo
    rw [← e1]
    exact hK _ (List.mem_singleton.2 rfl) ⟨by rw [e2]; omega, fun i hi => e3 i (by omega)⟩
  have putK : ∀ {s : SV} {k : Nat} {o : SObj}, oneP s (mm.put lo k o) = some L → K s ((mm.mem lo).set k o) := by
    intro s k o h
    obtain ⟨m1, h1, rfl⟩ := oneP_ok h
    obtain ⟨e1, e2, e3⟩ := put_ok h1
    rw [← e1]
    exact hK _ (List.mem_singleton.2 rfl) ⟨by rw [e2]; omega, e3⟩
  have killK : ∀ {s s0 : SV} {o : SObj}, oneP s (bindM (killR lo mm s0) fun m => m.push o) = some L → K s (kill (mm.mem lo) s0 ++ [o]) := by
    intro s s0 o h
    obtain ⟨m1, h1, rfl⟩ := oneP_ok h
    unfold bindM at h1
    split at h1
    · rename_i m2 h2
      obtain ⟨e1, e2, e3⟩ := killR_ok h2
      obtain ⟨f1, f2, f3⟩ := push_ok h1 (by omega : lo ≤ m2.n)
      rw [← e1, ← f1]
      exact hK _ (List.mem_singleton.2 rfl) ⟨by rw [f2, e2]; omega, fun i hi => (f3 i (by omega)).trans (e3 i hi)⟩
    · cases h1
  have same : ∀ {s : SV}, some [(s, mm)] = some L → K s (mm.mem lo) := by
    intro s h
    injection h with h; subst h
    exact hK _ (List.mem_singleton.2 rfl) (Keep.refl _ _)
  have ml : (mm.mem lo).length = mm.n := mem_len
  cases x <;> simp only [rB] at h <;> simp only [evB]
  case ofA x =>
    split at h
    · rename_i s hs
      exact rA_ok (K := fun s => K s (mm.mem lo)) at_mem hs (same h)
    · cases h
  case box x =>
    split at h
    · rename_i cs hcs
      simp only [hcs, ml]
      exact pushK h
    · cases h
  case alloc zero => rw [ml]; exact pushK h
  case build zero parts =>
    split at h
    · rename_i cs hcs
      simp only [hcs]
      exact same h
    · cases h
  case buildSl sz len zero parts =>
    split at h
    · rename_i cs hcs
      simp only [hcs, ml]
      exact pushK h
    · cases h
  case store sz a x =>
    split at h
    · rename_i k o cs h1 h2
      simp only [h1, h2]
      split at h
      · rename_i ob hob
        simp only [at_mem _ _ hob]
        obtain ⟨hc, h⟩ := bif_some' h
        simp only [Bool.and_eq_true, nbeq, ble_iff, Bool.not_eq_true'] at hc
        exact ⟨hc, putK h⟩
      · cases h
    · cases h
  case app sz bytes s x =>
    split at h
    · rename_i n xs k ys h1 h2
      simp only [rSl_ok at_mem h1, rSl_ok at_mem h2]
      cases hk : Nat.beq k 0 with
      | true =>
        simp only [hk, cond_true] at h
        rw [if_pos (nbeq.1 hk)]
        obtain ⟨hc, h⟩ := bif_some' h
        exact ⟨capR_ok hc, same h⟩
      | false =>
        simp only [hk, cond_false] at h
        rw [if_neg (nbeqf.1 hk), ml]
        obtain ⟨hc, h⟩ := bif_some' h
        simp only [Bool.and_eq_true, nbeq, ble_iff] at hc
        have hk0 := nbeqf.1 hk
        exact ⟨⟨growsR_ok at_mem hc.1, hc.2.1, hc.2.2.1, by omega, hc.2.2.2.1, hc.2.2.2.2⟩, killK h⟩
    · cases h
  case apps bytes s x =>
    split at h
    · rename_i n xs str h1 h2
      simp only [rSl_ok at_mem h1, h2]
      cases hk : Nat.beq str.size 0 with
      | true =>
        simp only [hk, cond_true] at h
        rw [if_pos (nbeq.1 hk)]
        obtain ⟨hc, h⟩ := bif_some' h
        exact ⟨capR_ok hc, same h⟩
      | false =>
        simp only [hk, cond_false] at h
        rw [if_neg (nbeqf.1 hk), ml]
        obtain ⟨hc, h⟩ := bif_some' h
        simp only [Bool.and_eq_true, nbeq, ble_iff] at hc
        exact ⟨⟨growsR_ok at_mem hc.1, hc.2.1, hc.2.2⟩, killK h⟩
    · cases h
  case cpy sz d x =>
    split at h
    · rename_i k o n s k2 ys h1 h2
      simp only [h1, rSl_ok at_mem h2]
      split at h
      · rename_i ob hob
        simp only [at_mem _ _ hob]
        obtain ⟨hc, h⟩ := bif_some' h
        simp only [Bool.and_eq_true, nbeq, ble_iff, Bool.not_eq_true'] at hc
        exact ⟨hc, putK h⟩
      · cases h
    · cases h
  case mkSl sz bytes zero l c =>
    split at h
    · rename_i h1 h2
      simp only [h1, h2, ml]
      obtain ⟨hc, h⟩ := bif_some' h
      simp only [Bool.and_eq_true, Bool.not_eq_true', ilt_ok, decide_eq_false_iff_not] at hc
      exact ⟨⟨nonneg_ok hc.1, by omega, by omega, by omega⟩, pushK h⟩
    · cases h
  case s2b x =>
    split at h
    · rename_i h1
      simp only [h1, ml]
      exact pushK h
    · cases h
  case call f args =>
    split at h
    · rename_i f cap h1
      simp only [h1]
      obtain ⟨c, h2, h3⟩ := hcl.run _ _ _ _ _ hlo h
      simp only [h2]
      exact h3 K hK
    · rename_i f cap h1
      simp only [h1]
      obtain ⟨c, h2, h3⟩ := hcl.run _ _ _ _ _ hlo h
      simp only [h2]
      exact h3 K hK
    · cases h
  case mkMap kt => rw [ml]; exact pushK h
  case mapUpd kt x i v =>
    unfold evUpd
    split at h
    · rename_i k key h1 h2
      simp only [h1, h2]
      split at h
      · rename_i kt' es h3
        simp only [any_of h3]
        obtain ⟨hc, h⟩ := bif_some' h
        simp only [Bool.and_eq_true] at hc
        exact ⟨⟨ktB_ok hc.1, hc.2⟩, putK h⟩
      · cases h
    · cases h
  case mapEnt kt zero x i =>
    unfold evEnt
    split at h
    · rename_i k key h1 h2
      simp only [h1, h2]
      split at h
      · rename_i kt' es h3
        simp only [any_of h3]
        obtain ⟨hc, h⟩ := bif_some' h
        simp only [Bool.and_eq_true] at hc
        refine ⟨⟨ktB_ok hc.1, hc.2⟩, ?_⟩
        split at h
        · rename_i j s h4
          simp only [h4]
          exact putK h
        · rename_i h4
          simp only [h4]
          exact putK h
      · cases h
    · cases h
  case entSt x j v =>
    unfold evEntSt
    split at h
    · rename_i k q j h1 h2
      simp only [h1, h2]
      split at h
      · rename_i kt' es h3
        simp only [any_of h3]
        obtain ⟨hc, h⟩ := bif_some' h
        exact ⟨inB_ok hc, putK h⟩
      · cases h
    · cases h
def quietR (qf : FuncId → Bool) (e : Env) : XB → Bool
  | .store .. | .app .. | .apps .. | .cpy .. | .mapUpd .. | .mapEnt .. | .entSt .. => false
  | .call f _ => match f.get e with | .fn f _ | .bnd f _ => qf f | _ => false
  | _ => true
def putR (e : BT) : Option Nat → SV → Option BT
  | some d, s => e.set d s
  | none, _ => some e
theorem putR_ok {e e' : BT} {d : Option Nat} {s : SV} (h : putR e d s = some e') : putO e.get d s = e'.get := by
  cases d with
  | none => simp only [putR] at h; injection h with h; subst h; rfl
  | some d => exact BT.put_of h
theorem put_self {e : Env} {t : Nat} {s : SV} (h : e t = s) : put e t s = e := by
  funext x
  unfold put
  split
  · rename_i hx; rw [hx, h]
  · rfl
def rPut (dst : Option Nat) (e : BT) (o : SV × MM) : Option (List (BT × MM)) := match putR e dst o.1 with | some e' => some [(e', o.2)] | none => none
def bbeq : Bool → Bool → Bool
  | true, true | false, false => true
  | _, _ => false
theorem bbeq_ok {a b : Bool} : bbeq a b = true ↔ a = b := by cases a <;> cases b <;> simp [bbeq]
def rI (cl : Callee) (lo : Nat) (i : XI) (e : BT) (m : MM) : Option (List (BT × MM)) :=
  match i.grd with
  | none => bindO (rB cl i.op e.get lo m) (rPut i.dst e)
  | some (t, want) =>
    match e.get t with
    | .v (.bool b) => bif bbeq b want then bindO (rB cl i.op e.get lo m) (rPut i.dst e) else rPut i.dst e (.tup [], m)
    | .tup [] => rPut i.dst e (.tup [], m)
    | _ => none
theorem rI_ok [Inp] {G : List CEntry} {cl : Callee} {qf : FuncId → Bool} (hcl : ClOk G cl qf) {i : XI} {e : BT} {lo : Nat} {m : MM} {L : List (BT × MM)} {K : Env → Mem → Prop} (hlo : lo ≤ m.n) (h : rI cl lo i e m = some L) (hK : ∀ o ∈ L, Keep lo m o.2 → K o.1.get (o.2.mem lo)) : evI G i e.get (m.mem lo) K := by
  have run : bindO (rB cl i.op e.get lo m) (rPut i.dst e) = some L → evB G i.op e.get (m.mem lo) fun s m' => K (putO e.get i.dst s) m' := by
    intro h
    obtain ⟨l, h1, h2⟩ := bindO_ok h
    refine rB_ok hcl hlo h1 fun o ho hkp => ?_
    obtain ⟨x, h3, h4⟩ := h2 o ho
    unfold rPut at h3
    split at h3
    · rename_i e' he
      injection h3 with h3; subst h3
      rw [putR_ok he]
      exact hK _ (h4 _ (List.mem_singleton.2 rfl)) hkp
    · cases h3
  have skip : rPut i.dst e (.tup [], m) = some L → K (putO e.get i.dst (.tup [])) (m.mem lo) := by
    intro h
    unfold rPut at h
    split at h
    · rename_i e' he
      injection h with h; subst h
      rw [putR_ok he]
      exact hK _ (List.mem_singleton.2 rfl) (Keep.refl _ _)
    · cases h
  unfold rI at h
  unfold evI
  split at h
  · rename_i hg
    simp only [hg]
    exact run h
  · rename_i t want hg
    simp only [hg]
    split at h
    · rename_i b hb
      simp only [hb]
      cases hbw : bbeq b want with
      | true =>
        simp only [hbw, cond_true] at h
        rw [bbeq_ok] at hbw
        subst hbw
        rw [if_pos rfl, put_self hb]
        exact run h
      | false =>
        simp only [hbw, cond_false] at h
        have hbw' : ¬ b = want := fun hh => by rw [bbeq_ok.2 hh] at hbw; cases hbw
        have : b = !want := by cases b <;> cases want <;> simp_all
        rw [if_neg hbw', ← this, put_self hb]
        exact skip h
    · rename_i hb
      simp only [hb]
      exact skip h
    · cases h
def mapQ : List (Value × SV) → List (Value × SV) → Bool
  | [], [] => true
  | p :: ps, q :: qs => veq p.1 q.1 && (seq p.2 q.2 && mapQ ps qs)
  | _, _ => false
theorem mapQ_ok : ∀ {a b : List (Value × SV)}, mapQ a b = true → a = b
  | [], [], _ => rfl
  | [], _ :: _, h => by simp [mapQ] at h
  | _ :: _, [], h => by simp [mapQ] at h
  | (a, b) :: ps, (c, d) :: qs, h => by
    simp only [mapQ, Bool.and_eq_true] at h
    rw [veq_ok h.1, seq_ok h.2.1, mapQ_ok h.2.2]
def extQ : ExtV → ExtV → Bool
  | .no, .no => true
  | .map kt a, .map kt' b => ktB kt kt' && mapQ a b
  | _, _ => false
theorem extQ_ok {a b : ExtV} (h : extQ a b = true) : a = b := by
  unfold extQ at h
  split at h
  · rfl
  · simp only [Bool.and_eq_true] at h
    rw [ktB_ok h.1, mapQ_ok h.2]
  · cases h
def obQ (a b : SObj) : Bool := bbeq a.own b.own && (seqL a.cells b.cells && extQ a.x.v b.x.v)
theorem obQ_ok {a b : SObj} (h : obQ a b = true) : a = b := by
  obtain ⟨o, c⟩ := a
  rename_i x
  obtain ⟨o', c'⟩ := b
  rename_i x'
  obtain ⟨v⟩ := x
  obtain ⟨v'⟩ := x'
  unfold obQ at h
  simp only [Bool.and_eq_true, bbeq_ok] at h
  obtain ⟨rfl, h2, h3⟩ := h
  obtain rfl := seqL_ok h2
  obtain rfl : v = v' := extQ_ok h3
  rfl
def mtQ : MT → MT → Bool
  | .tip, .tip => true
  | .node o l r, .node o' l' r' => obQ o o' && (mtQ l l' && mtQ r r')
  | _, _ => false
theorem mtQ_ok : ∀ {a b : MT}, mtQ a b = true → a = b
  | .tip, .tip, _ => rfl
  | .tip, .node .., h => by simp [mtQ] at h
  | .node .., .tip, h => by simp [mtQ] at h
  | .node .., .node .., h => by
    simp only [mtQ, Bool.and_eq_true] at h
    rw [obQ_ok h.1, mtQ_ok h.2.1, mtQ_ok h.2.2]
def sameO (a b : BT × MM) : Bool := btq a.1 b.1 && (Nat.beq a.2.n b.2.n && mtQ a.2.t b.2.t)
theorem sameO_ok {a b : BT × MM} (h : sameO a b = true) : a = b := by
  unfold sameO at h
  simp only [Bool.and_eq_true, nbeq] at h
  obtain ⟨x1, ⟨t, n⟩⟩ := a
  obtain ⟨y1, ⟨t', n'⟩⟩ := b
  simp only at h
  rw [btq_ok h.1, h.2.1, mtQ_ok h.2.2]
def unionO (a b : List (BT × MM)) : List (BT × MM) := bif a.all (fun x => b.any (sameO x)) then b else a ++ b
theorem union_ok {a b : List (BT × MM)} : (∀ x ∈ a, x ∈ unionO a b) ∧ ∀ x ∈ b, x ∈ unionO a b := by
  unfold unionO
  cases h : a.all (fun x => b.any (sameO x)) with
  | true =>
    simp only [cond_true]
    refine ⟨fun x hx => ?_, fun x hx => hx⟩
    have := List.all_eq_true.1 h x hx
    obtain ⟨y, hy, he⟩ := List.any_eq_true.1 this
    rw [sameO_ok he]; exact hy
  | false =>
    simp only [cond_false]
    exact ⟨fun x hx => by simp [hx], fun x hx => by simp [hx]⟩
mutual
def rT (cl : Callee) (qf : FuncId → Bool) (lo : Nat) : XT → BT → MM → Option (List (BT × MM))
  | .done, e, m => some [(e, m)]
  | .seq i rest, e, m => bindO (rI cl lo i e m) fun o => rT cl qf lo rest o.1 o.2
  | .take i rest, e, m => bindO (rI cl lo i e m) fun o => rT cl qf lo rest o.1 o.2
  | .act q alts, e, m => rAlts cl qf lo q alts e m
  | .alt qs alts, e, m => rAlt2 cl qf lo alts qs e m
def rAlts (cl : Callee) (qf : FuncId → Bool) (lo : Nat) (q : Bool) : List (XI × XT) → BT → MM → Option (List (BT × MM))
  | [], _, _ => some []
  | (i, t) :: rest, e, m => bif q && !quietR qf e.get i.op then none else
    match bindO (rI cl lo i e m) (fun o => rT cl qf lo t o.1 o.2), rAlts cl qf lo q rest e m with
    | some a, some b => some (unionO a b)
    | _, _ => none
def rAlt2 (cl : Callee) (qf : FuncId → Bool) (lo : Nat) : List (XI × XT) → List Bool → BT → MM → Option (List (BT × MM))
  | [], _, _, _ => some []
  | (i, t) :: rest, qs, e, m => bif qs.headD false && !quietR qf e.get i.op then none else
    match bindO (rI cl lo i e m) (fun o => rT cl qf lo t o.1 o.2), rAlt2 cl qf lo rest qs.tail e m with
    | some a, some b => some (unionO a b)
    | _, _ => none
end
theorem quietR_ok [Inp] {G : List CEntry} {cl : Callee} {qf : FuncId → Bool} {x : XB} {e : Env} (hcl : ClOk G cl qf) (h : quietR qf e x = true) : quiet G e x = true := by
  cases x <;> simp only [quietR] at h <;> simp only [quiet]
  all_goals first | (cases h; done) | skip
  rename_i f args
  split at h
  · rename_i f cap h1
    simp only [h1]
    obtain ⟨c, h2, h3⟩ := hcl.q _ h
    simp only [h2, h3]
  · rename_i f cap h1
    simp only [h1]
    obtain ⟨c, h2, h3⟩ := hcl.q _ h
    simp only [h2, h3]
  · cases h
mutual
theorem rT_ok [Inp] {G : List CEntry} {cl : Callee} {qf : FuncId → Bool} (hcl : ClOk G cl qf) {lo : Nat} : ∀ (t : XT) {e : BT} {m : MM} {L : List (BT × MM)} {K : Env → Mem → Prop}, lo ≤ m.n → rT cl qf lo t e m = some L → (∀ o ∈ L, Keep lo m o.2 → K o.1.get (o.2.mem lo)) → evT G t e.get (m.mem lo) K
  | .done, e, m, L, K, hlo, h, hK => by
    simp only [rT] at h
    injection h with h; subst h
    exact hK _ (List.mem_singleton.2 rfl) (Keep.refl _ _)
  | .seq i rest, e, m, L, K, hlo, h, hK => by
    simp only [rT] at h
    simp only [evT]
    obtain ⟨l, h1, h2⟩ := bindO_ok h
    refine rI_ok hcl hlo h1 fun o ho hkp => ?_
    obtain ⟨x, h3, h4⟩ := h2 o ho
    exact rT_ok hcl rest (Nat.le_trans hlo hkp.1) h3 fun o ho hk2 => hK o (h4 o ho) (hkp.trans hk2)
  | .take i rest, e, m, L, K, hlo, h, hK => by
    simp only [rT] at h
    simp only [evT]
    obtain ⟨l, h1, h2⟩ := bindO_ok h
    refine rI_ok hcl hlo h1 fun o ho hkp => ?_
    obtain ⟨x, h3, h4⟩ := h2 o ho
    exact rT_ok hcl rest (Nat.le_trans hlo hkp.1) h3 fun o ho hk2 => hK o (h4 o ho) (hkp.trans hk2)
  | .act q alts, e, m, L, K, hlo, h, hK => by
    simp only [rT] at h
    simp only [evT]
    exact rAlts_ok hcl q alts hlo h hK
  | .alt qs alts, e, m, L, K, hlo, h, hK => by
    simp only [rT] at h
    simp only [evT]
    exact rAlt2_ok hcl alts qs hlo h hK
theorem rAlts_ok [Inp] {G : List CEntry} {cl : Callee} {qf : FuncId → Bool} (hcl : ClOk G cl qf) {lo : Nat} (q : Bool) : ∀ (alts : List (XI × XT)) {e : BT} {m : MM} {L : List (BT × MM)} {K : Env → Mem → Prop}, lo ≤ m.n → rAlts cl qf lo q alts e m = some L → (∀ o ∈ L, Keep lo m o.2 → K o.1.get (o.2.mem lo)) → evAlts G q alts e.get (m.mem lo) K
  | [], e, m, L, K, hlo, h, hK => by simp only [evAlts]
  | (i, t) :: rest, e, m, L, K, hlo, h, hK => by
    simp only [rAlts] at h
    simp only [evAlts]
    cases hq : q && !quietR qf e.get i.op with
    | true => simp [hq] at h
    | false =>
      simp only [hq, cond_false] at h
      split at h
      · rename_i a b ha hb
        injection h with h; subst h
        obtain ⟨u1, u2⟩ := @union_ok a b
        obtain ⟨l, h1, h2⟩ := bindO_ok ha
        refine ⟨⟨fun hqt => ?_, ?_⟩, rAlts_ok hcl q rest hlo hb fun o ho => hK o (u2 o ho)⟩
        · rw [hqt] at hq
          simp only [Bool.true_and, Bool.not_eq_false'] at hq
          exact quietR_ok hcl hq
        · refine rI_ok hcl hlo h1 fun o ho hkp => ?_
          obtain ⟨x, h3, h4⟩ := h2 o ho
          exact rT_ok hcl t (Nat.le_trans hlo hkp.1) h3 fun o ho hk2 => hK o (u1 o (h4 o ho)) (hkp.trans hk2)
      · cases h
theorem rAlt2_ok [Inp] {G : List CEntry} {cl : Callee} {qf : FuncId → Bool} (hcl : ClOk G cl qf) {lo : Nat} : ∀ (alts : List (XI × XT)) (qs : List Bool) {e : BT} {m : MM} {L : List (BT × MM)} {K : Env → Mem → Prop}, lo ≤ m.n → rAlt2 cl qf lo alts qs e m = some L → (∀ o ∈ L, Keep lo m o.2 → K o.1.get (o.2.mem lo)) → evAlt2 G alts qs e.get (m.mem lo) K
  | [], qs, e, m, L, K, hlo, h, hK => by simp only [evAlt2]
  | (i, t) :: rest, qs, e, m, L, K, hlo, h, hK => by
    simp only [rAlt2] at h
    simp only [evAlt2]
    cases hq : qs.headD false && !quietR qf e.get i.op with
    | true => rw [hq, cond_true] at h; cases h
    | false =>
      simp only [hq, cond_false] at h
      split at h
      · rename_i a b ha hb
        injection h with h; subst h
        obtain ⟨u1, u2⟩ := @union_ok a b
        obtain ⟨l, h1, h2⟩ := bindO_ok ha
        refine ⟨⟨fun hqt => ?_, ?_⟩, rAlt2_ok hcl rest qs.tail hlo hb fun o ho => hK o (u2 o ho)⟩
        · rw [hqt] at hq
          simp only [Bool.true_and, Bool.not_eq_false'] at hq
          exact quietR_ok hcl hq
        · refine rI_ok hcl hlo h1 fun o ho hkp => ?_
          obtain ⟨x, h3, h4⟩ := h2 o ho
          exact rT_ok hcl t (Nat.le_trans hlo hkp.1) h3 fun o ho hk2 => hK o (u1 o (h4 o ho)) (hkp.trans hk2)
      · cases h
end
abbrev Outc := Exit × BT × MM
def rLoop (f : BT → MM → Option (List Outc)) : Nat → BT → MM → Option (List Outc)
  | 0, _, _ => none
  | n + 1, e, m => bindO (f e m) fun o => match o.1 with
    | .normal => rLoop f n o.2.1 o.2.2
    | _ => some [o]
def rX (cl : Callee) (qf : FuncId → Bool) (fuel : Nat) (lo : Nat) : XC → BT → MM → Option (List Outc)
  | .skip, e, m => some [(.normal, e, m)]
  | .tree t, e, m => bindO (rT cl qf lo t e m) fun o => some [(.normal, o.1, o.2)]
  | .seq a b, e, m => bindO (rX cl qf fuel lo a e m) fun o => match o.1 with
    | .normal => rX cl qf fuel lo b o.2.1 o.2.2
    | _ => some [o]
  | .cond c a b, e, m => match c.get e.get with
    | .v (.bool t) => bif t then rX cl qf fuel lo a e m else rX cl qf fuel lo b e m
    | _ => none
  | .block id a, e, m => bindO (rX cl qf fuel lo a e m) fun o => match o.1 with
    | .exit i => bif Nat.beq i id then some [(.normal, o.2.1, o.2.2)] else some [o]
    | _ => some [o]
  | .loop a, e, m => rLoop (rX cl qf fuel lo a) fuel e m
  | .exit id, e, m => some [(.exit id, e, m)]
  | .ret, e, m => some [(.ret, e, m)]
theorem rX_ok [Inp] {P : Program} {N : Nat} {eff : List FuncId} {G : List CEntry} (hG : GOk P G) {cl : Callee} {qf : FuncId → Bool} (hcl : ClOk G cl qf) (fuel : Nat) {lo : Nat} :
    ∀ (x : XC) {e : BT} {m : MM} {L : List Outc} {Q : Post}, lo ≤ m.n → rX cl qf fuel lo x e m = some L → (∀ o ∈ L, Keep lo m o.2.2 → Q o.1 o.2.1.get (o.2.2.mem lo)) → evX P N eff G x e.get (m.mem lo) Q := by
  intro x
  induction x with
  | skip => intro e m L Q hlo h hQ; simp only [rX] at h; injection h with h; subst h; exact hQ _ (List.mem_singleton.2 rfl) (Keep.refl _ _)
  | exit id => intro e m L Q hlo h hQ; simp only [rX] at h; injection h with h; subst h; exact hQ _ (List.mem_singleton.2 rfl) (Keep.refl _ _)
  | ret => intro e m L Q hlo h hQ; simp only [rX] at h; injection h with h; subst h; exact hQ _ (List.mem_singleton.2 rfl) (Keep.refl _ _)
  | tree t =>
    intro e m L Q hlo h hQ
    simp only [rX] at h
    obtain ⟨l, h1, h2⟩ := bindO_ok h
    simp only [evX]
    refine rT_ok hcl t hlo h1 fun o ho hkp => ?_
    obtain ⟨x, h3, h4⟩ := h2 o ho
    injection h3 with h3; subst h3
    exact hQ _ (h4 _ (List.mem_singleton.2 rfl)) hkp
  | seq a b iha ihb =>
    intro e m L Q hlo h hQ
    simp only [rX] at h
    obtain ⟨l, h1, h2⟩ := bindO_ok h
    simp only [evX]
    refine iha hlo h1 fun o ho hkp => ?_
    obtain ⟨x, h3, h4⟩ := h2 o ho
    obtain ⟨ex, e', m'⟩ := o
    cases ex
    case normal =>
      simp only [thenQ]
      exact ihb (Nat.le_trans hlo hkp.1) h3 fun o ho hk2 => hQ o (h4 o ho) (hkp.trans hk2)
    all_goals
      simp only at h3
      injection h3 with h3; subst h3
      simp only [thenQ]
      exact hQ _ (h4 _ (List.mem_singleton.2 rfl)) hkp
  | cond c a b iha ihb =>
    intro e m L Q hlo h hQ
    simp only [rX] at h
    simp only [evX]
    split at h
    · rename_i t ht
      simp only [ht]
      cases t
      · simp only [Bool.false_eq_true, if_false]
        rw [upd_same ht]
        exact ihb hlo h hQ
      · simp only [if_true]
        rw [upd_same ht]
        exact iha hlo h hQ
    · cases h
  | block id a iha =>
    intro e m L Q hlo h hQ
    simp only [rX] at h
    obtain ⟨l, h1, h2⟩ := bindO_ok h
    simp only [evX]
    refine iha hlo h1 fun o ho hkp => ?_
    obtain ⟨x, h3, h4⟩ := h2 o ho
    obtain ⟨ex, e', m'⟩ := o
    cases ex
    case exit i =>
      simp only [blockQ]
      simp only at h3
      cases hb : Nat.beq i id with
      | true =>
        simp only [hb, cond_true] at h3
        injection h3 with h3; subst h3
        rw [if_pos (nbeq.1 hb)]
        exact hQ _ (h4 _ (List.mem_singleton.2 rfl)) hkp
      | false =>
        simp only [hb, cond_false] at h3
        injection h3 with h3; subst h3
        rw [if_neg (nbeqf.1 hb)]
        exact hQ _ (h4 _ (List.mem_singleton.2 rfl)) hkp
    all_goals
      simp only at h3
      injection h3 with h3; subst h3
      simp only [blockQ]
      exact hQ _ (h4 _ (List.mem_singleton.2 rfl)) hkp
  | loop a iha =>
    intro e m L Q hlo h hQ
    simp only [rX] at h
    simp only [evX]
    refine TX_unroll hG fuel ?_
    have key : ∀ (n : Nat) {e : BT} {m : MM} {L : List Outc}, lo ≤ m.n → rLoop (rX cl qf fuel lo a) n e m = some L → (∀ o ∈ L, Keep lo m o.2.2 → Q o.1 o.2.1.get (o.2.2.mem lo)) → unr P N eff G a Q n e.get (m.mem lo) := by
      intro n
      induction n with
      | zero => intro e m L _ h _; simp [rLoop] at h
      | succ n ihn =>
        intro e m L hlo h hQ
        simp only [rLoop] at h
        obtain ⟨l, h1, h2⟩ := bindO_ok h
        simp only [unr]
        refine iha hlo h1 fun o ho hkp => ?_
        obtain ⟨x, h3, h4⟩ := h2 o ho
        obtain ⟨ex, e', m'⟩ := o
        cases ex
        case normal =>
          simp only [thenQ]
          exact ihn (Nat.le_trans hlo hkp.1) h3 fun o ho hk2 => hQ o (h4 o ho) (hkp.trans hk2)
        all_goals
          simp only at h3
          injection h3 with h3; subst h3
          simp only [thenQ]
          exact hQ _ (h4 _ (List.mem_singleton.2 rfl)) hkp
    exact key fuel hlo h hQ
def rR1 (x : XR) (e : Env) (g : Look) : Option SV :=
  match x with
  | .tmp t => some (e t)
  | .cell t sz => match e t with | .ptr k o => (match g k with | some ob => rPart ob.cells o sz | none => none) | _ => none
def rRs : List XR → Env → Look → Option (List SV)
  | [], _, _ => some []
  | x :: l, e, g => match rR1 x e g, rRs l e g with | some s, some ss => some (s :: ss) | _, _ => none
theorem rRs_ok {m : Mem} {g : Look} (hg : ∀ k o, g k = some o → m[k]? = some o) : ∀ {l : List XR} {e : Env} {ss : List SV} {K : List SV → Prop}, rRs l e g = some ss → K ss → evRs l e m K
  | [], e, ss, K, h, hK => by simp only [rRs] at h; injection h with h; subst h; exact hK
  | x :: l, e, ss, K, h, hK => by
    simp only [rRs] at h
    split at h
    · rename_i s ss' h1 h2
      injection h with h; subst h
      simp only [evRs]
      have h3 : evRs l e m fun ss => K (s :: ss) := rRs_ok hg h2 hK
      cases x with
      | tmp t => simp only [rR1] at h1; injection h1 with h1; subst h1; exact h3
      | cell t sz =>
        simp only [rR1] at h1
        simp only [evR1]
        split at h1
        · rename_i k o hk
          simp only [hk]
          split at h1
          · rename_i ob hob
            simp only [hg _ _ hob]
            exact rPart_ok h1 h3
          · cases h1
        · cases h1
    · cases h
structure RFn where
  x : XC
  N : Nat
  rs : List XR
  dep : Nat
abbrev Nat_ := List SV → Nat → MM → Option (List (SV × MM))
inductive RE where
  | run (f : FuncId) (q : Bool) (r : RFn)
  | nat (f : FuncId) (q : Bool) (g : Nat_)
def RE.f : RE → FuncId
  | .run f _ _ | .nat f _ _ => f
def RE.q : RE → Bool
  | .run _ q _ | .nat _ q _ => q
def lkR (f : FuncId) : List RE → Option RE
  | [] => none
  | c :: G => bif Nat.beq c.f f then some c else lkR f G
def qfT (T : List RE) (f : FuncId) : Bool := match lkR f T with | some c => c.q | none => false
def newOk (a : Nat) (m : MM) : Bool := (List.range' a (m.n - a)).all fun k => (m.t.get k).own || (m.t.get k).cells.isEmpty
def finR (q : Bool) (mm : MM) (s : SV) (mm' : MM) : Option (List (SV × MM)) :=
  bif q then
    bif s.plain then some [(s, mm)] else
    bif newOk mm.n mm' then some [(s, mm')] else none
  else some [(s, mm')]
def endsR : Exit → Bool
  | .normal | .ret => true
  | _ => false
def runF (T : List RE) (lf : Nat) : Nat → Callee
  | 0, _, _, _, _ => none
  | n + 1, f, args, lo, m => match lkR f T with
    | some (.run _ q r) =>
      bif Nat.ble args.length r.N then
        match BT.args (BT.full r.dep) 0 args with
        | some e => bindO (rX (runF T lf n) (qfT T) lf (bif q then m.n else lo) r.x e m) fun o =>
          bif endsR o.1 then (match rRs r.rs o.2.1.get (o.2.2.at_ (bif q then m.n else lo)) with | some ss => finR q m (pack ss) o.2.2 | none => none) else none
        | none => none
      else none
    | some (.nat _ _ g) => g args lo m
    | none => none
def natTr (g : Nat_) : Trans := fun args m k => ∃ lo mm L, lo ≤ mm.n ∧ m = mm.mem lo ∧ g args lo mm = some L ∧ ∀ o ∈ L, Keep lo mm o.2 → k o.1 (o.2.mem lo)
def runTr (T : List RE) (lf n : Nat) (f : FuncId) : Trans := natTr (runF T lf n f)
def GT (T : List RE) (lf n : Nat) : List CEntry := T.map fun c => ⟨c.f, qfT T c.f, runTr T lf n c.f⟩
theorem lkR_f {f : FuncId} {c : RE} : ∀ {T : List RE}, lkR f T = some c → c.f = f ∧ c ∈ T
  | [], h => by simp [lkR] at h
  | d :: T, h => by
    unfold lkR at h
    cases hb : Nat.beq d.f f with
    | true =>
      simp only [hb, cond_true] at h
      injection h with h; subst h
      exact ⟨nbeq.1 hb, by simp⟩
    | false =>
      simp only [hb, cond_false] at h
      obtain ⟨h1, h2⟩ := lkR_f h
      exact ⟨h1, by simp [h2]⟩
theorem lookEx {f : RE} : ∀ {T : List RE}, f ∈ T → ∃ c2, lkR f.f T = some c2
  | [], h => by cases h
  | a :: T, h => by
    unfold lkR
    cases hb : Nat.beq a.f f.f with
    | true => exact ⟨a, rfl⟩
    | false =>
      simp only [cond_false]
      rcases List.mem_cons.1 h with rfl | h
      · rw [Nat.beq_refl] at hb; cases hb
      · exact lookEx h
theorem look_GT {T0 : List RE} {lf n : Nat} {f : FuncId} {c : RE} : ∀ {T : List RE}, lkR f T = some c → look f (T.map fun c => (⟨c.f, qfT T0 c.f, runTr T0 lf n c.f⟩ : CEntry)) = some ⟨f, qfT T0 f, runTr T0 lf n f⟩
  | [], h => by simp [lkR] at h
  | d :: T, h => by
    unfold lkR at h
    simp only [List.map_cons, look]
    cases hb : Nat.beq d.f f with
    | true =>
      have := nbeq.1 hb
      subst this
      simp
    | false =>
      simp only [hb, cond_false] at h
      rw [if_neg (nbeqf.1 hb)]
      exact look_GT h
def TOk (P : Program) (eff : List FuncId) (T : List RE) : Prop := ∀ c ∈ T, match c with
  | .run f _ r => FnX P f eff r.N r.x r.rs
  | .nat f q g => ∀ I : Inp, @Callable I P f q (natTr g)
theorem TOk.nil {P : Program} {eff : List FuncId} : TOk P eff [] := fun c h => by cases h
theorem TOk.run {P : Program} {eff : List FuncId} {f : FuncId} {q : Bool} {N : Nat} {x : XC} {rs : List XR} {d : Nat} {T : List RE} (h : FnX P f eff N x rs) (hT : TOk P eff T) : TOk P eff (.run f q ⟨x, N, rs, d⟩ :: T) := fun c hc => by
  rcases List.mem_cons.1 hc with rfl | hc
  · exact h
  · exact hT c hc
theorem TOk.nat {P : Program} {eff : List FuncId} {f : FuncId} {q : Bool} {g : Nat_} {T : List RE} (h : ∀ I : Inp, @Callable I P f q (natTr g)) (hT : TOk P eff T) : TOk P eff (.nat f q g :: T) := fun c hc => by
  rcases List.mem_cons.1 hc with rfl | hc
  · exact h
  · exact hT c hc
theorem TOk.enter {P : Program} {eff : List FuncId} {T : List RE} (hT : TOk P eff T) {f f' : FuncId} {q : Bool} {r : RFn} (h : lkR f T = some (.run f' q r)) : Enterable P f := by
  obtain ⟨h1, h2⟩ := lkR_f h
  have := hT _ h2
  simp only [RE.f] at h1
  subst h1
  exact FnX.enter this
def RE.Holds [Inp] (P : Program) (c : RE) (f : FuncId) (q : Bool) (tr : Trans) : Prop := match c with
  | .run .. => Contract P f q tr
  | .nat .. => Callable P f q tr
theorem RE.Holds.callable [Inp] {P : Program} {c : RE} {f : FuncId} {q : Bool} {tr : Trans} (h : c.Holds P f q tr) : Callable P f q tr := by
  cases c with
  | run f' q' r => exact .inl h
  | nat f' q' g => exact h
theorem endsR_ok {ex : Exit} (h : endsR ex = true) : EndsX ex := by cases ex <;> simp only [endsR] at h <;> first | (cases h; done) | exact trivial
section
variable {base : Nat → Prop} {w0 W W1 : World} {r t : List Loc} {m m' : Mem}
theorem St.behind (I J : Inp) (h : @St I base w0 r m W) (h2 : @St J (fun k => W.heap.size ≤ k) W (r ++ t) m' W1) (hn : ∀ (k : Nat) (o : SObj), m.length ≤ k → m'[k]? = some o → o.own = true ∨ o.cells = []) : @St I base w0 (r ++ t) (m ++ m'.drop m.length) W1 := by
  have hb : Below W.heap.size W W1 := (@St.low J _ _ _ _ _ h2).below
  have h1 := @St.below _ _ _ _ _ _ I h hb
  have hlen := @St.len I _ _ _ _ _ h
  have hlen2 := @St.len J _ _ _ _ _ h2
  simp only [List.length_append] at hlen2
  have split : ∀ (k : Nat) (l : Loc) (o : SObj), (r ++ t)[k]? = some l → (m ++ m'.drop m.length)[k]? = some o → (k < r.length ∧ r[k]? = some l ∧ m[k]? = some o) ∨ (r.length ≤ k ∧ (r ++ t)[k]? = some l ∧ m'[k]? = some o ∧ (o.own = true ∨ o.cells = [])) := by
    intro k l o hl ho
    rcases Nat.lt_or_ge k r.length with hk | hk
    · exact .inl ⟨hk, by rwa [List.getElem?_append_left hk] at hl, by rwa [List.getElem?_append_left (by omega)] at ho⟩
    · rw [List.getElem?_append_right (by omega), List.getElem?_drop, show m.length + (k - m.length) = k by omega] at ho
      exact .inr ⟨hk, hl, ho, hn k o (by omega) ho⟩
  obtain ⟨F, hF⟩ := @St.hid I _ _ _ _ _ h
  obtain ⟨F2, hF2⟩ := @St.hid J _ _ _ _ _ h2
  have newB : ∀ (k : Nat) (l : Loc) (o : SObj), (r ++ t)[k]? = some l → m'[k]? = some o → (o.own = true ∨ o.cells = []) → (o.own = true ∨ o.cells ≠ []) → o.own = true ∧ W.heap.size ≤ l.blk := by
    intro k l o q1 q2 q3 q4
    have how : o.own = true := by
      rcases q3 with h | h
      · exact h
      · rcases q4 with h' | h'
        · exact h'
        · exact (h' h).elim
    exact ⟨how, (@St.obj J _ _ _ _ _ h2 k l o q1 q2).own how⟩
  refine @St.mk I _ _ _ _ _ (@St.low I _ _ _ _ _ h1) (@St.from_ I _ _ _ _ _ h1) (@St.inp I _ _ _ _ _ h1) (by simp; omega) (fun k l o q1 q2 => ?_) (fun k k' l l' o o' q1 q2 q3 q4 hne ho hal => ?_)
    ⟨fun k => if k < r.length then F k else F2 k, fun k l o q1 q2 => ?_, fun k b hb' => ?_, fun k b hb' k' l o q1 q2 hal => ?_, fun k k' b hb1 hb2 => ?_⟩
  · rcases split k l o q1 q2 with ⟨_, p1, p2⟩ | ⟨_, p1, p2, p3⟩
    · exact (@St.obj I _ _ _ _ _ h1 k l o p1 p2).grow t
    · obtain ⟨g1, g2, g3, g4, g5⟩ := @St.obj J _ _ _ _ _ h2 k l o p1 p2
      exact ⟨g1, g2, fun hh => @St.from_ I _ _ _ _ _ h _ (Nat.le_trans (@St.low I _ _ _ _ _ h).size (g3 hh)), g4, g5⟩
  · rcases split k l o q1 q3 with ⟨a1, p1, p2⟩ | ⟨a1, p1, p2, p3⟩ <;> rcases split k' l' o' q2 q4 with ⟨b1, p4, p5⟩ | ⟨b1, p4, p5, p6⟩
    · exact @St.sep I _ _ _ _ _ h1 k k' l l' o o' p1 p4 p2 p5 hne ho hal
    · have := (newB k' l' o' p4 p5 p6 hal).2
      have := @St.locs _ _ _ _ _ I h l (List.mem_of_getElem? p1)
      omega
    · have := (newB k l o p1 p2 p3 (.inl ho)).2
      have := @St.locs _ _ _ _ _ I h l' (List.mem_of_getElem? p4)
      omega
    · exact @St.sep J _ _ _ _ _ h2 k k' l l' o o' p1 p4 p2 p5 hne ho hal
  · rcases split k l o q1 q2 with ⟨a1, p1, p2⟩ | ⟨a1, p1, p2, p3⟩
    · simp only [if_pos a1]
      refine HidIs.grow ?_ t
      cases ha : o.isA with
      | false => exact HidIs.not ha
      | true =>
        refine (hF.is k l o p1 p2).same hb.size fun b hb' => ?_
        rcases List.mem_cons.1 hb' with rfl | hb'
        · exact hb.block _ (@St.locs _ _ _ _ _ I h l (List.mem_of_getElem? p1))
        · exact hb.block _ (hF.base k b hb').2
    · simp only [if_neg (show ¬ k < r.length by omega)]
      exact hF2.is k l o p1 p2
  · split at hb'
    · exact ⟨(hF.base k b hb').1, Nat.lt_of_lt_of_le (hF.base k b hb').2 hb.size⟩
    · have := hF2.base k b hb'
      exact ⟨@St.from_ I _ _ _ _ _ h _ (Nat.le_trans (@St.low I _ _ _ _ _ h).size this.1), this.2⟩
  · rcases split k' l o q1 q2 with ⟨a1, p1, p2⟩ | ⟨a1, p1, p2, p3⟩
    · split at hb'
      · exact hF.far k b hb' k' l o p1 p2 hal
      · have := (hF2.base k b hb').1
        have := @St.locs _ _ _ _ _ I h l (List.mem_of_getElem? p1)
        omega
    · have := newB k' l o p1 p2 p3 hal
      split at hb'
      · have := (hF.base k b hb').2
        omega
      · exact hF2.far k b hb' k' l o p1 p2 hal
  · split at hb1
    · split at hb2
      · exact hF.apart k k' b hb1 hb2
      · have := (hF.base _ b hb1).2
        have := (hF2.base _ b hb2).1
        omega
    · split at hb2
      · have := (hF.base _ b hb2).2
        have := (hF2.base _ b hb1).1
        omega
      · exact hF2.apart k k' b hb1 hb2
end
theorem mem_ro {lo : Nat} {mm mm' : MM} (hlo : lo ≤ mm.n) (hk : Keep mm.n mm mm') : mm'.mem lo = mm.mem lo ++ (mm'.mem mm.n).drop (mm.mem lo).length := by
  apply List.ext_getElem?
  intro k
  rw [mem_at]
  by_cases h : k < mm.n
  · rw [List.getElem?_append_left (by rw [mem_len]; exact h), mem_at]
    unfold MM.at_
    rw [nblt, nblt, decide_eq_true h, decide_eq_true (Nat.lt_of_lt_of_le h hk.1), hk.2 k h]
  · rw [List.getElem?_append_right (by rw [mem_len]; omega), List.getElem?_drop, mem_len, show mm.n + (k - mm.n) = k by omega, mem_at]
    unfold MM.at_ vw
    rw [nblt, nblt, nblt, decide_eq_false (show ¬ k < lo by omega), decide_eq_false (show ¬ k < mm.n by omega)]
theorem run_contract {P : Program} {eff : List FuncId} {T : List RE} (hT : TOk P eff T) (lf : Nat) : ∀ (n : Nat) (I : Inp) (f : FuncId) (c : RE), lkR f T = some c → @RE.Holds I P c f (qfT T f) (runTr T lf n f)
  | 0, I, f, .run f' q rf, hc => ⟨hT.enter hc, fun args m k base w0 W r vs ht _ _ => by obtain ⟨lo, mm, L, _, _, h, _⟩ := ht; cases h⟩
  | 0, I, f, .nat f' q g, hc => .inr ⟨fun args m k base w0 W r vs ht _ _ => by obtain ⟨lo, mm, L, _, _, h, _⟩ := ht; cases h⟩
  | n + 1, I, f, c, hc => by
    have hq : qfT T f = c.q := by unfold qfT; rw [hc]
    obtain ⟨hcf, hcm⟩ := lkR_f hc
    have hGok : ∀ J : Inp, @GOk J P (GT T lf n) := fun J d hd => by
      obtain ⟨c', hc', rfl⟩ := List.mem_map.1 hd
      obtain ⟨c2, hc2⟩ : ∃ c2, lkR c'.f T = some c2 := lookEx hc'
      exact (run_contract hT lf n J _ c2 hc2).callable
    have hcl : ∀ J : Inp, @ClOk J (GT T lf n) (runF T lf n) (qfT T) := fun J => by
      constructor
      · intro f' args lo mm L hlo hL
        cases hl : lkR f' T with
        | none =>
          cases n with
          | zero => simp [runF] at hL
          | succ n => simp [runF, hl] at hL
        | some c2 => exact ⟨_, look_GT hl, fun K hK => ⟨lo, mm, L, hlo, rfl, hL, hK⟩⟩
      · intro f' hf'
        have : ∃ c2, lkR f' T = some c2 := by
          unfold qfT at hf'
          split at hf'
          · exact ⟨_, by assumption⟩
          · cases hf'
        obtain ⟨c2, hc2⟩ := this
        exact ⟨_, look_GT hc2, hf'⟩
    have hcT := hT c hcm
    cases c with
    | nat f' q g =>
      simp only [RE.f] at hcf
      subst hcf
      have hcT' := hcT I
      rw [hq]
      simp only [RE.q]
      simp only [RE.Holds]
      have htr : runTr T lf (n + 1) f' = natTr g := by
        unfold runTr
        congr 1
        funext args lo mm
        unfold runF
        simp only [hc]
      rw [htr]
      exact hcT'
    | run f' q rf =>
      simp only [RE.f] at hcf
      subst hcf
      rw [hq]
      simp only [RE.q, RE.Holds]
      refine ⟨hT.enter hc, fun args m k base w0 W r vs ht hst ha => ?_⟩
      obtain ⟨lo, mm, L, hlo, rfl, hL, ht⟩ := ht
      unfold runF at hL
      simp only [hc] at hL
      cases hb : Nat.ble args.length rf.N with
      | false => simp [hb] at hL
      | true =>
        simp only [hb, cond_true] at hL
        split at hL
        case h_2 => cases hL
        rename_i e he
        have hslots := BT.args_of (BT.full_get rf.dep) he
        obtain ⟨l, hx, hout⟩ := bindO_ok hL
        have hlen := @St.len I _ _ _ _ _ hst
        cases q with
        | false =>
          simp only [cond_false] at hx hout
          have hst2 : @St ⟨I.at_, (mm.mem lo).length⟩ base w0 r (mm.mem lo) W := @St.mk ⟨I.at_, (mm.mem lo).length⟩ _ _ _ _ _ (@St.low I _ _ _ _ _ hst) (@St.from_ I _ _ _ _ _ hst) (@St.inp I _ _ _ _ _ hst) hlen (@St.obj I _ _ _ _ _ hst) (@St.sep I _ _ _ _ _ hst) (@St.hid I _ _ _ _ _ hst)
          refine (@FnX.calls P _ eff rf.N rf.x rf.rs (GT T lf n) ⟨I.at_, (mm.mem lo).length⟩ hcT (hGok _) _ _ _ _ _ _ _ hst2 ha (Nat.le_of_ble_eq_true hb) (fun s m' => k s m') ?_).mono ?_
          · rw [hslots]
            refine @rX_ok ⟨I.at_, (mm.mem lo).length⟩ _ _ _ _ (hGok _) _ _ (hcl _) lf lo rf.x _ _ _ _ hlo hx fun o ho hkp => ?_
            obtain ⟨L', h1, h2⟩ := hout o ho
            cases hen : endsR o.1 with
            | false => simp [hen] at h1
            | true =>
              simp only [hen, cond_true] at h1
              split at h1
              · rename_i ss hss
                unfold finR at h1
                simp only [cond_false] at h1
                injection h1 with h1; subst h1
                exact ⟨endsR_ok hen, rRs_ok at_mem hss (ht _ (h2 _ (List.mem_singleton.2 rfl)) hkp)⟩
              · cases h1
          · rintro en W1 ⟨s, m', r', u, hk, rfl, hst1, hs, hkp⟩
            obtain ⟨t, rfl⟩ := @kept_ext' ⟨I.at_, (mm.mem lo).length⟩ _ _ _ rfl hlen.symm hkp
            exact ⟨s, m', t, u, hk, rfl, @St.mk I _ _ _ _ _ (@St.low ⟨I.at_, (mm.mem lo).length⟩ _ _ _ _ _ hst1) (@St.from_ ⟨I.at_, (mm.mem lo).length⟩ _ _ _ _ _ hst1) (@St.inp ⟨I.at_, (mm.mem lo).length⟩ _ _ _ _ _ hst1) (@St.len ⟨I.at_, (mm.mem lo).length⟩ _ _ _ _ _ hst1) (@St.obj ⟨I.at_, (mm.mem lo).length⟩ _ _ _ _ _ hst1) (@St.sep ⟨I.at_, (mm.mem lo).length⟩ _ _ _ _ _ hst1) (@St.hid ⟨I.at_, (mm.mem lo).length⟩ _ _ _ _ _ hst1), hs, fun h => by cases h⟩
        | true =>
          simp only [cond_true] at hx hout
          have hst2 : @St ⟨I.at_, mm.n⟩ (fun k => W.heap.size ≤ k) W r (mm.mem mm.n) W := by
            have ro : ∀ (k : Nat) (o : SObj), (mm.mem mm.n)[k]? = some o → ∃ o1, (mm.mem lo)[k]? = some o1 ∧ o = ⟨false, o1.cells⟩ := by
              intro k o hk
              rw [mem_at] at hk
              unfold MM.at_ at hk
              rw [nblt] at hk
              by_cases h : k < mm.n
              · rw [decide_eq_true h, cond_true] at hk
                injection hk with hk
                refine ⟨vw lo k (mm.t.get k), by rw [mem_at]; unfold MM.at_; rw [nblt, decide_eq_true h, cond_true], ?_⟩
                rw [← hk]
                unfold vw
                rw [nblt, nblt, decide_eq_true h, cond_true]
                cases decide (k < lo) <;> rfl
              · rw [decide_eq_false h] at hk; cases hk
            refine @St.mk ⟨I.at_, mm.n⟩ _ _ _ _ _ (Low.refl _ _) (fun _ h => h) (fun a u ha => ⟨by have := cell_lt (@St.inp_at _ _ _ _ _ I hst _ _ ha); omega, @St.inp_at _ _ _ _ _ I hst _ _ ha⟩) (by rw [hlen, mem_len, mem_len]) (fun k l o q1 q2 => ?_) (fun k k' l l' o o' q1 q2 q3 q4 hne ho hal => ?_) ⟨fun _ => [], fun k l o q1 q2 => ?_, by simp, by simp, by simp⟩
            · obtain ⟨o1, h1, rfl⟩ := ro k o q2
              have hO := @St.obj I _ _ _ _ _ hst k l o1 q1 h1
              by_cases hc : o1.cells = []
              · rw [hc]; exact .dead hO.lt
              · refine ⟨fun _ _ => ?_, hO.fits, fun h => (by cases h), hO.lt, trivial⟩
                obtain ⟨c, T', fr, g1, g2, g3, g4⟩ := hO.there (notM hO hc) (.inr hc)
                exact ⟨c, T', fr, g1, g2, g3, fun h => by cases h⟩
            · obtain ⟨o1, h1, rfl⟩ := ro k o q3
              cases ho
            · obtain ⟨o1, h1, rfl⟩ := ro k o q2
              trivial
          refine (@FnX.calls P _ eff rf.N rf.x rf.rs (GT T lf n) ⟨I.at_, mm.n⟩ hcT (hGok _) _ _ _ _ _ _ _ hst2 ha (Nat.le_of_ble_eq_true hb) (fun s m' => ∃ mm', m' = mm'.mem mm.n ∧ Keep mm.n mm mm' ∧ ∃ L', finR true mm s mm' = some L' ∧ ∀ o ∈ L', Keep lo mm o.2 → k o.1 (o.2.mem lo)) ?_).mono ?_
          · rw [hslots]
            refine @rX_ok ⟨I.at_, mm.n⟩ _ _ _ _ (hGok _) _ _ (hcl _) lf mm.n rf.x _ _ _ _ (Nat.le_refl _) hx fun o ho hkp => ?_
            obtain ⟨L', h1, h2⟩ := hout o ho
            cases hen : endsR o.1 with
            | false => simp [hen] at h1
            | true =>
              simp only [hen, cond_true] at h1
              split at h1
              · rename_i ss hss
                exact ⟨endsR_ok hen, rRs_ok at_mem hss ⟨_, rfl, hkp, L', h1, fun o ho => ht o (h2 o ho)⟩⟩
              · cases h1
          · rintro en W1 ⟨s, m', r', u, ⟨mm', rfl, hkm, L', hfin, hk⟩, rfl, hst1, hs, hkp⟩
            obtain ⟨t, rfl⟩ := @kept_ext' ⟨I.at_, mm.n⟩ _ _ mm.n rfl (by rw [hlen, mem_len]) hkp
            have hb : Below W.heap.size W W1 := (@St.low ⟨I.at_, mm.n⟩ _ _ _ _ _ hst1).below
            unfold finR at hfin
            simp only [cond_true] at hfin
            cases hcnd : s.plain with
            | true =>
              simp only [hcnd, cond_true] at hfin
              injection hfin with hfin; subst hfin
              exact ⟨s, _, [], u, hk _ (List.mem_singleton.2 rfl) (Keep.refl _ _), rfl, by simpa using @St.below _ _ _ _ _ _ I hst hb, by simpa using plain_is hcnd hs, fun _ => @Same.below _ _ _ _ _ _ I hst hb⟩
            | false =>
              simp only [hcnd, cond_false] at hfin
              cases hcnd2 : newOk mm.n mm' with
              | true =>
                simp only [hcnd2, cond_true] at hfin
                injection hfin with hfin; subst hfin
                have hk1 := hk _ (List.mem_singleton.2 rfl) ⟨hkm.1, fun i hi => hkm.2 i (by omega)⟩
                have hbe := St.behind I ⟨I.at_, mm.n⟩ hst hst1 (fun q o hq ho => by
                  rw [mem_len] at hq
                  rw [mem_at] at ho
                  unfold MM.at_ vw at ho
                  rw [nblt, nblt, decide_eq_false (show ¬ q < mm.n by omega), cond_false] at ho
                  by_cases h : q < mm'.n
                  · rw [decide_eq_true h, cond_true] at ho
                    injection ho with ho; subst ho
                    have := List.all_eq_true.1 hcnd2 q (List.mem_range'.2 ⟨q - mm.n, by omega, by omega⟩)
                    simpa using this
                  · rw [decide_eq_false h] at ho; cases ho)
                rw [← mem_ro hlo hkm] at hbe
                exact ⟨s, _, t, u, hk1, rfl, hbe, hs, fun _ => @Same.below _ _ _ _ _ _ I hst hb⟩
              | false => simp [hcnd2] at hfin
def runsTo (T : List RE) (lf n : Nat) (f : FuncId) (args : List Value) (s : SV) : Bool := match lkR f T with | some (.run ..) => (match runF T lf n f (args.map .v) 0 ⟨.tip, 0⟩ with | some L => L.all fun o => o.1.plain && seq o.1 s | none => false) | _ => false
theorem Contract.runs [I : Inp] {P : Program} {eff : List FuncId} {T : List RE} (hT : TOk P eff T) (lf n : Nat) {f : FuncId} {args : List Value} {s : SV} (h : runsTo T lf n f args s = true) (tr : Trans) (htr : ∀ a m k, tr a m k → a = args.map .v ∧ k s m) : Contract P f true tr := by
  unfold runsTo at h
  split at h
  case h_2 => cases h
  rename_i f' q' rf hc
  refine ⟨hT.enter hc, fun a m k base w0 W r vs ht hst ha => ?_⟩
  obtain ⟨rfl, hk⟩ := htr a m k ht
  obtain rfl := isL_v_inv ha
  have hcon : @Contract (inpOf W) P f (qfT T f) (runTr T lf n f) := run_contract hT lf n (inpOf W) f _ hc
  split at h
  · rename_i L hL
    refine (@Contract.calls (inpOf W) _ _ _ _ hcon (vs.map .v) [] (fun s' _ => s'.plain = true ∧ s' = s) (fun k => W.heap.size ≤ k) W W [] vs ⟨0, ⟨.tip, 0⟩, L, Nat.le_refl _, rfl, hL, fun o ho _ => ?_⟩ (St.inpOf W) (IsL_v vs)).mono ?_
    · have := List.all_eq_true.1 h o ho
      simp only [Bool.and_eq_true] at this
      exact ⟨this.1, seq_ok this.2⟩
    · rintro e W1 ⟨s', m', t, u, ⟨hp, rfl⟩, rfl, hst1, hs, _⟩
      have hb : Below W.heap.size W W1 := (@St.low (inpOf W) _ _ _ _ _ hst1).below
      exact ⟨s', m, [], u, hk, rfl, by simpa using hst.below hb, plain_is hp hs, fun _ => Same.below hst hb⟩
  · cases h
end Go.Proofs.Ytibefgdjijmncaa.Sz
end
section
namespace Go.Proofs.Ytibefgdjijmncaa
open Go.RowKit Sz
theorem u32_xor {a b : Nat} (ha : a < 4294967296) (hb : b < 4294967296) : xoI (Int.ofNat a) (Int.ofNat b) = Int.ofNat (Nat.xor a b) := by
  have := xor_ok .u32 (Int.ofNat a) (Int.ofNat b)
  unfold xoI
  rw [← this]
  unfold bitsF
  simp only [fitsK, nblt, ha, hb, decide_true, Bool.and_self, cond_true]
def stN (v : Nat) : Nat := bif Nat.beq (Nat.mod v 2) 1 then Nat.xor (Nat.div v 2) 2197175160 else Nat.div v 2
theorem xor_lt {a b : Nat} (ha : a < 4294967296) (hb : b < 4294967296) : Nat.xor a b < 4294967296 := Nat.xor_lt_two_pow (n := 32) ha hb
theorem stN_lt {v : Nat} (h : v < 4294967296) : stN v < 4294967296 := by
  have h2 : Nat.div v 2 < 4294967296 := by show v / 2 < _; omega
  unfold stN
  cases Nat.beq (Nat.mod v 2) 1
  · exact h2
  · exact xor_lt h2 (by decide)
theorem stN_ok {v : Nat} (h : v < 4294967296) : stepI (Int.ofNat v) = Int.ofNat (stN v) := by
  have h1 : lowI (Int.ofNat v) = Int.ofNat (Nat.mod v 2) := by
    have := and_ok .u32 (Int.ofNat v) (Int.ofNat 1)
    unfold lowI
    show IntKind.u32.wrap (BitVec.ofInt IntKind.u32.bits (Int.ofNat v) &&& BitVec.ofInt IntKind.u32.bits (Int.ofNat 1)).toNat = _
    rw [← this]
    unfold bitsF
    simp only [fitsK, nblt, h, show 1 < 4294967296 by decide, decide_true, Bool.and_self, cond_true]
    show Int.ofNat (v &&& 1) = Int.ofNat (v % 2)
    rw [Nat.and_one_is_mod]
  have h2 : shI (Int.ofNat v) = Int.ofNat (Nat.div v 2) := by
    unfold shI
    rw [← ishr_ok]
    show Int.ofNat (v >>> 1) = Int.ofNat (v / 2)
    rw [Nat.shiftRight_eq_div_pow]
  unfold stepI stN
  rw [h1, h2]
  have hd : Nat.div v 2 < 4294967296 := by show v / 2 < _; omega
  cases hb : Nat.beq (Nat.mod v 2) 1 with
  | true =>
    rw [nbeq] at hb
    rw [if_pos (by rw [hb]; rfl), cond_true]
    exact u32_xor hd (by decide)
  | false =>
    rw [nbeqf] at hb
    rw [if_neg (by intro h; exact hb (Int.ofNat.inj h)), cond_false]
def crN (v : Nat) : Nat := stN (stN (stN (stN (stN (stN (stN (stN v)))))))
theorem crN_lt {v : Nat} (h : v < 4294967296) : crN v < 4294967296 := stN_lt (stN_lt (stN_lt (stN_lt (stN_lt (stN_lt (stN_lt (stN_lt h)))))))
theorem crN_ok {v : Nat} (h : v < 4294967296) : crc8 v = Int.ofNat (crN v) := by
  unfold crc8 crN
  simp only [stepN]
  rw [show ((v : Nat) : Int) = Int.ofNat v from rfl]
  rw [stN_ok h, stN_ok (stN_lt h), stN_ok (stN_lt (stN_lt h)), stN_ok (stN_lt (stN_lt (stN_lt h))), stN_ok (stN_lt (stN_lt (stN_lt (stN_lt h)))), stN_ok (stN_lt (stN_lt (stN_lt (stN_lt (stN_lt h))))), stN_ok (stN_lt (stN_lt (stN_lt (stN_lt (stN_lt (stN_lt h)))))), stN_ok (stN_lt (stN_lt (stN_lt (stN_lt (stN_lt (stN_lt (stN_lt h)))))))]
def onN (v c : Nat) : Nat := Nat.xor (Nat.div v 256) (crN (Nat.xor (Nat.mod v 256) c))
theorem onN_ok {v c : Nat} (h : v < 4294967296) (hc : c < 256) : onS (Int.ofNat v) (Int.ofNat c) = Int.ofNat (onN v c) := by
  have e1 : sh8 (Int.ofNat v) = Int.ofNat (Nat.div v 256) := by
    unfold sh8
    rw [← ishr_ok]
    show Int.ofNat (v >>> 8) = Int.ofNat (v / 256)
    rw [Nat.shiftRight_eq_div_pow]
  have hm : Nat.mod v 256 < 256 := Nat.mod_lt v (by decide)
  have e2 : ixI (Int.ofNat v) (Int.ofNat c) = Int.ofNat (Nat.xor (Nat.mod v 256) c) := by
    unfold ixI
    have e3 : IntKind.u8.wrap (Int.ofNat v) = Int.ofNat (Nat.mod v 256) := by
      rw [IntKind.wrap_u8]
      show (v : Int) % 256 = ((v % 256 : Nat) : Int)
      omega
    rw [e3]
    have := xor_ok .u8 (Int.ofNat (Nat.mod v 256)) (Int.ofNat c)
    rw [← this]
    unfold bitsF
    simp only [fitsK, nblt, hm, hc, decide_true, Bool.and_self, cond_true]
  have hx : Nat.xor (Nat.mod v 256) c < 256 := Nat.xor_lt_two_pow (n := 8) hm hc
  have hd : Nat.div v 256 < 4294967296 := by show v / 256 < _; omega
  unfold onS onN
  rw [e1, e2]
  show xoI _ (crc8 (Nat.xor (Nat.mod v 256) c)) = _
  rw [crN_ok (by omega)]
  exact u32_xor hd (crN_lt (by omega))
def sumL : Nat → List SV → Option Nat
  | v, [] => some (Nat.xor v 4294967295)
  | v, .v (.int .u8 (.ofNat c)) :: l => bif Nat.blt c 256 && Nat.blt (onN v c) 4294967296 then sumL (onN v c) l else none
  | _, _ :: _ => none
theorem noI_ok {v : Nat} (h : v < 4294967296) : noI (Int.ofNat v) = Int.ofNat (Nat.xor v 4294967295) := by
  have e : noI (Int.ofNat v) = xoI (Int.ofNat 4294967295) (Int.ofNat v) := rfl
  rw [e, u32_xor (by decide) h]
  congr 1
  exact Nat.xor_comm _ _
theorem sumL_ok : ∀ {l : List SV} {v r : Nat}, v < 4294967296 → sumL v l = some r → ∃ bs, decB l = some bs ∧ bs.length = l.length ∧ noI (onF (Int.ofNat v) bs) = Int.ofNat r := by
  intro l
  induction l with
  | nil =>
    intro v r hv h
    simp only [sumL] at h
    injection h with h; subst h
    exact ⟨[], rfl, rfl, noI_ok hv⟩
  | cons a l ih =>
    intro v r hv h
    unfold sumL at h
    split at h
    · rename_i heq; cases heq
    · rename_i v w0 w1 c l' heq
      cases heq
      cases hc : Nat.blt c 256 && Nat.blt (onN v c) 4294967296 with
      | false => simp [hc] at h
      | true =>
        simp only [hc, cond_true] at h
        simp only [Bool.and_eq_true, nblt, decide_eq_true_eq] at hc
        obtain ⟨bs, h1, h2, h3⟩ := ih hc.2 h
        refine ⟨Int.ofNat c :: bs, by simp only [decB, h1, Option.map_some], by simp [h2], ?_⟩
        rw [← h3, ← onN_ok hv hc.1]
        rfl
    · cases h
def g242N : Nat_ := fun args lo mm => match args with
  | [.v (.int .u32 (.ofNat s)), b] => (match rSl (mm.at_ lo) 1 b with
    | some p => bif Nat.ble p.2.length 1000 && Nat.blt s 4294967296 then (match sumL (Nat.xor s 4294967295) p.2 with | some r => some [(.v (.int .u32 (.ofNat r)), mm)] | none => none) else none
    | none => none)
  | _ => none
theorem Sz.Contract.mono [Inp] {P : Program} {f : FuncId} {q : Bool} {tr tr' : Trans} (h : Contract P f q tr) (ht : ∀ args m k, tr' args m k → tr args m k) : Contract P f q tr' :=
  ⟨h.enter, fun args m k base w0 W r vs h1 => h.calls args m k base w0 W r vs (ht _ _ _ h1)⟩
theorem h147 : ∀ I : Inp, @Callable I Try.prog 147 true (natTr g242N) := fun I => .inl (c147_ok.mono fun args m k h => by
  obtain ⟨lo, mm, L, hlo, rfl, hL, h⟩ := h
  unfold g242N at hL
  split at hL
  case h_2 => cases hL
  rename_i s b
  split at hL
  case h_2 => cases hL
  rename_i p hp
  cases hb : Nat.ble p.2.length 1000 && Nat.blt s 4294967296 with
  | false => simp [hb] at hL
  | true =>
    simp only [hb, cond_true] at hL
    simp only [Bool.and_eq_true, nblt, decide_eq_true_eq] at hb
    split at hL
    case h_2 => cases hL
    rename_i r hr
    injection hL with hL; subst hL
    have hle := Nat.le_of_ble_eq_true hb.1
    have hx : Nat.xor s 4294967295 < 4294967296 := xor_lt hb.2 (by decide)
    obtain ⟨bs, h1, h2, h3⟩ := sumL_ok hx hr
    refine ⟨bs, ?_, by omega, ?_⟩
    · unfold rdB
      rw [rSl_ok at_mem hp]
      exact h1
    · have e : sumF (Int.ofNat s) bs = Int.ofNat r := by
        unfold sumF
        rw [noI_ok hb.2]
        exact h3
      rw [e]
      exact h _ (List.mem_singleton.2 rfl) (Keep.refl _ _))
end Go.Proofs.Ytibefgdjijmncaa
end
section
namespace Go.Proofs.Ytibefgdjijmncaa
open Go.RowKit Sz
set_option maxHeartbeats 4000000
set_option maxRecDepth 20000
-- almshouse/almshouseref01.Fits (2 parameters)
def x103 : XC := (.seq (.tree (.seq ⟨some 4, none, (.ofA (.mv (.cst (.v (.bool false)))))⟩
 .done))
 (.seq (.seq (.tree (.seq ⟨some 5, none, (.ofA (.mv (.tmp 1)))⟩
 .done))
 (.block 0 (.seq (.tree (.seq ⟨some 7, none, (.ofA (.bin .eql (.tmp 5) (.cst (.v (.int .i64 1)))))⟩
 (.seq ⟨some 6, none, (.ofA (.mv (.tmp 7)))⟩
 .done)))
 (.cond (.tmp 6)
 (.seq (.tree (.seq ⟨some 8, none, (.ofA (.mv (.tmp 0)))⟩
 (.seq ⟨some 9, none, (.ofA (.bin .geq (.tmp 8) (.cst (.v (.int .i64 0)))))⟩
 (.seq ⟨some 10, none, (.ofA (.mv (.tmp 9)))⟩
 (.seq ⟨some 11, some (10, true), (.ofA (.mv (.tmp 0)))⟩
 (.seq ⟨some 12, some (10, true), (.ofA (.bin .leq (.tmp 11) (.cst (.v (.int .i64 255)))))⟩
 (.seq ⟨some 13, none, (.ofA (.pick (.tmp 10) (.tmp 12) (.cst (.v (.bool false)))))⟩
 (.seq ⟨some 4, none, (.ofA (.mv (.tmp 13)))⟩
 .done))))))))
 .ret)
 (.seq (.tree (.seq ⟨some 15, none, (.ofA (.bin .eql (.tmp 5) (.cst (.v (.int .i64 2)))))⟩
 (.seq ⟨some 14, none, (.ofA (.mv (.tmp 15)))⟩
 .done)))
 (.cond (.tmp 14)
 (.seq (.tree (.seq ⟨some 16, none, (.ofA (.mv (.tmp 0)))⟩
 (.seq ⟨some 17, none, (.ofA (.bin .geq (.tmp 16) (.cst (.v (.int .i64 0)))))⟩
 (.seq ⟨some 18, none, (.ofA (.mv (.tmp 17)))⟩
 (.seq ⟨some 19, some (18, true), (.ofA (.mv (.tmp 0)))⟩
 (.seq ⟨some 20, some (18, true), (.ofA (.bin .leq (.tmp 19) (.cst (.v (.int .i64 65535)))))⟩
 (.seq ⟨some 21, none, (.ofA (.pick (.tmp 18) (.tmp 20) (.cst (.v (.bool false)))))⟩
 (.seq ⟨some 4, none, (.ofA (.mv (.tmp 21)))⟩
 .done))))))))
 .ret)
 (.seq (.tree (.seq ⟨some 23, none, (.ofA (.bin .eql (.tmp 5) (.cst (.v (.int .i64 4)))))⟩
 (.seq ⟨some 22, none, (.ofA (.mv (.tmp 23)))⟩
 .done)))
 (.cond (.tmp 22)
 (.seq (.tree (.seq ⟨some 24, none, (.ofA (.mv (.tmp 0)))⟩
 (.seq ⟨some 25, none, (.ofA (.bin .geq (.tmp 24) (.cst (.v (.int .i64 0)))))⟩
 (.seq ⟨some 26, none, (.ofA (.mv (.tmp 25)))⟩
 (.seq ⟨some 27, some (26, true), (.ofA (.mv (.tmp 0)))⟩
 (.seq ⟨some 28, some (26, true), (.ofA (.bin .leq (.tmp 27) (.cst (.v (.int .i64 4294967295)))))⟩
 (.seq ⟨some 29, none, (.ofA (.pick (.tmp 26) (.tmp 28) (.cst (.v (.bool false)))))⟩
 (.seq ⟨some 4, none, (.ofA (.mv (.tmp 29)))⟩
 .done))))))))
 .ret)
 .skip))))))))
 (.seq (.tree (.seq ⟨some 4, none, (.ofA (.mv (.cst (.v (.bool false)))))⟩
 .done))
 .ret)))
def r103 : List XR := [.tmp 4]
theorem fn103 : FnX Try.prog 103 [] 30 x103 r103 := ⟨_, Try.func103, by kernel_rfl, by kernel_rfl, by kernel_rfl, by kernel_rfl⟩
def fitsR (v n : Int) : Bool := if n == 1 then decide (v ≥ 0) && decide (v ≤ 255) else if n == 2 then decide (v ≥ 0) && decide (v ≤ 65535) else if n == 4 then decide (v ≥ 0) && decide (v ≤ 4294967295) else false
theorem fitsR_eq (v n : Int) : fitsR v n = fitsF v n := by
  unfold fitsR fitsF sizedF
  have e1 : (2 : Int) ^ (min (8 * 1 : Int).toNat IntKind.i64.bits) = 256 := by decide
  have e2 : (2 : Int) ^ (min (8 * 2 : Int).toNat IntKind.i64.bits) = 65536 := by decide
  have e4 : (2 : Int) ^ (min (8 * 4 : Int).toNat IntKind.i64.bits) = 4294967296 := by decide
  have key : ∀ d : Int, 0 < d → (decide (v ≥ 0) && decide (v ≤ d - 1)) = (v.fdiv d == 0) := by
    intro d hd
    rw [Int.fdiv_eq_ediv_of_nonneg _ (by omega), Bool.eq_iff_iff]
    simp only [Bool.and_eq_true, decide_eq_true_eq, beq_iff_eq]
    constructor
    · rintro ⟨h1, h2⟩
      exact Int.ediv_eq_zero_of_lt h1 (by omega)
    · intro h
      have h3 := Int.emod_add_mul_ediv v d
      rw [h] at h3
      have h4 := Int.emod_nonneg v (b := d) (by omega)
      have h5 := Int.emod_lt_of_pos v hd
      omega
  by_cases h1 : n = 1
  · subst h1; simp only [e1]; simpa using key 256 (by omega)
  · by_cases h2 : n = 2
    · subst h2; simp only [e2]; simpa using key 65536 (by omega)
    · by_cases h4 : n = 4
      · subst h4; simp only [e4]; simpa using key 4294967296 (by omega)
      · simp [h1, h2, h4]
def c103 [Inp] : Trans := fun args m k => match args with
  | [.v (.int .i64 v), .v (.int .i64 n)] => k (.v (.bool (fitsF v n))) m
  | _ => False
theorem c103_ok [Inp] : Contract Try.prog 103 true c103 := by
  refine .read fn103 (G := fun _ => []) (fun J => @g0 J _) _ fun args m k h => ?_
  unfold c103 at h
  split at h
  · rename_i v n
    refine ⟨by simp, fun J hJ us hus => ?_⟩
    obtain ⟨u, t1, rfl, hk1, u2, t2, rfl, hk2, rfl⟩ := hus
    obtain rfl := hk1.1 _ rfl
    obtain rfl := hk2.1 _ rfl
    rw [← fitsR_eq] at h
    unfold fitsR at h
    cases h1 : (n == 1) <;> cases h2 : (n == 2) <;> cases h3 : (n == 4) <;> cases h4 : decide (v ≥ 0) <;> simp only [h1, h2, h3, h4, Bool.true_and, Bool.false_and, if_true, if_false, Bool.false_eq_true] at h <;> simp (maxSteps := 2000000) -implicitDefEqProofs only [↓x103, ↓r103, h1, h2, h3, h4, s_alt, s_alt20, s_alt2t, s_alt2f, ↓s_loopi, ↓v_pq, ↓PRE, POST, CORE, Nat.reduceDiv, Nat.reduceMod, Int.reduceLT, Int.reduceLE, Int.reduceToNat, Int.reduceAdd, ↓reduceIte, Nat.reduceEqDiff, Nat.reduceAdd, Nat.reduceMul, Nat.reduceSub, Nat.reduceLeDiff, Nat.reduceLT, reduceCtorEq, if_true, eq_self, forall_const, implies_true] <;> exact h
  · exact h.elim
end Go.Proofs.Ytibefgdjijmncaa
end
section
namespace Go.Proofs.Ytibefgdjijmncaa
open Go.RowKit Sz
set_option maxHeartbeats 4000000
set_option maxRecDepth 20000
-- almshouse/almshouseref01.Put (3 parameters)
def x58 : XC := (.seq (.tree (.seq ⟨some 6, none, (.ofA (.mv (.cst (.v (.slice none 0 0)))))⟩
 .done))
 (.seq (.tree (.seq ⟨some 9, none, (.buildSl 1 0 [] [])⟩
 (.seq ⟨some 10, none, (.ofA (.mv (.tmp 0)))⟩
 (.seq ⟨some 11, none, (.app 1 1 (.tmp 9) (.tmp 10))⟩
 (.seq ⟨some 7, none, (.ofA (.mv (.tmp 11)))⟩
 .done)))))
 (.seq (.seq (.tree (.seq ⟨some 12, none, (.ofA (.mv (.tmp 1)))⟩
 (.seq ⟨some 13, none, (.ofA (.mv (.tmp 2)))⟩
 (.seq ⟨some 14, none, (.call (.cst (.fn 103 [])) [(.tmp 12), (.tmp 13)])⟩
 (.seq ⟨some 15, none, (.ofA (.un .not (.tmp 14)))⟩
 .done)))))
 (.cond (.tmp 15)
 (.seq (.tree (.seq ⟨some 16, none, (.ofA (.mv (.tmp 7)))⟩
 (.seq ⟨some 6, none, (.ofA (.mv (.tmp 16)))⟩
 .done)))
 .ret)
 .skip))
 (.seq (.seq (.tree (.seq ⟨some 8, none, (.ofA (.mv (.cst (.v (.int .i64 0)))))⟩
 .done))
 (.block 0 (.loop (.seq (.seq (.tree (.seq ⟨some 17, none, (.ofA (.mv (.tmp 8)))⟩
 (.seq ⟨some 18, none, (.ofA (.mv (.tmp 2)))⟩
 (.seq ⟨some 19, none, (.ofA (.bin .lss (.tmp 17) (.tmp 18)))⟩
 .done))))
 (.cond (.tmp 19)
 .skip
 (.exit 0)))
 (.seq (.block 1 (.seq (.tree (.seq ⟨some 22, none, (.ofA (.mv (.tmp 7)))⟩
 (.seq ⟨some 23, none, (.ofA (.mv (.tmp 1)))⟩
 (.seq ⟨some 24, none, (.ofA (.bin .rem (.tmp 23) (.cst (.v (.int .i64 256)))))⟩
 (.seq ⟨some 25, none, (.ofA (.conv .u8 (.tmp 24)))⟩
 (.seq ⟨some 26, none, (.buildSl 1 1 [(.v (.int .u8 0))] [(0, 1, (.tmp 25))])⟩
 (.seq ⟨some 27, none, (.app 1 1 (.tmp 22) (.tmp 26))⟩
 (.seq ⟨some 7, none, (.ofA (.mv (.tmp 27)))⟩
 .done))))))))
 (.tree (.seq ⟨some 28, none, (.ofA (.mv (.tmp 1)))⟩
 (.seq ⟨some 29, none, (.ofA (.bin .quo (.tmp 28) (.cst (.v (.int .i64 256)))))⟩
 (.seq ⟨some 1, none, (.ofA (.mv (.tmp 29)))⟩
 .done))))))
 (.tree (.seq ⟨some 20, none, (.ofA (.mv (.tmp 8)))⟩
 (.seq ⟨some 21, none, (.ofA (.bin .add (.tmp 20) (.cst (.v (.int .i64 1)))))⟩
 (.seq ⟨some 8, none, (.ofA (.mv (.tmp 21)))⟩
 .done)))))))))
 (.seq (.tree (.seq ⟨some 30, none, (.ofA (.mv (.tmp 7)))⟩
 (.seq ⟨some 6, none, (.ofA (.mv (.tmp 30)))⟩
 .done)))
 .ret)))))
def r58 : List XR := [.tmp 6]
theorem fn58 : FnX Try.prog 58 [] 31 x58 r58 := ⟨_, Try.func58, by kernel_rfl, by kernel_rfl, by kernel_rfl, by kernel_rfl⟩
theorem sh_div (y : Int) : y.fdiv (2 ^ (min (8 : Int).toNat IntKind.i64.bits)) = y.fdiv 256 := rfl
theorem shN_ok {v : Int} (h0 : 0 ≤ v) (h1 : v ≤ 9223372036854775807) : ∀ x, 0 ≤ shN x v ∧ shN x v ≤ 9223372036854775807
  | 0 => ⟨h0, h1⟩
  | x + 1 => by
    obtain ⟨a, b⟩ := shN_ok h0 h1 x
    show 0 ≤ (shN x v).fdiv (2 ^ (min (8 : Int).toNat IntKind.i64.bits)) ∧ (shN x v).fdiv (2 ^ (min (8 : Int).toNat IntKind.i64.bits)) ≤ 9223372036854775807
    rw [sh_div, Int.fdiv_eq_ediv_of_nonneg _ (by omega)]
    omega
theorem tm_u8 {y : Int} (h : 0 ≤ y) : IntKind.u8.wrap (y.tmod 256) = IntKind.u8.wrap y := by
  rw [Int.tmod_eq_emod_of_nonneg h, IntKind.wrap_u8, IntKind.wrap_u8]; omega
theorem td_sh {y : Int} (h : 0 ≤ y) (h1 : y ≤ 9223372036854775807) : IntKind.i64.wrap (y.tdiv 256) = y.fdiv (2 ^ (min (8 : Int).toNat IntKind.i64.bits)) := by
  rw [sh_div, Int.fdiv_eq_ediv_of_nonneg _ (by omega), Int.tdiv_eq_ediv_of_nonneg h, Sz.w_64 (by omega) (by omega)]
def c58 [Inp] : Trans := fun args m k => match args with
  | [s, .v (.int .i64 v), .v (.int .i64 n)] => ∃ bs : List Int, rdB m s = some bs ∧ bs.length ≤ 900000 ∧ v ≤ 9223372036854775807 ∧ k (.row m.length 0 (putF bs v n).length 1) (m ++ [⟨true, bL (putF bs v n)⟩])
  | _ => False
theorem g103 [Inp] : GOk Try.prog [⟨103, true, c103⟩] := GOk.cons c103_ok (g0 _)
theorem c58_ok [Inp] : Contract Try.prog 58 true c58 := by
  refine .readF fn58 (G := fun J => [⟨103, true, @c103 J⟩]) (fun J => @g103 J) _ fun args m k h => ?_
  unfold c58 at h
  split at h
  case h_2 => exact h.elim
  rename_i b v n
  obtain ⟨bs, hb, hmax, hv, hk⟩ := h
  refine ⟨by simp, fun J hJ us hus => ?_⟩
  obtain ⟨u, t1, rfl, hk1, u2, t2, rfl, hk2, u3, t3, rfl, hk3, rfl⟩ := hus
  obtain rfl := hk2.1 _ rfl
  obtain rfl := hk3.1 _ rfl
  obtain ⟨p, c, rfl, hin⟩ := rdB_knows hb hk1
  have fin : ∀ (L : List Int) (m' : Mem) (j : Nat), m'[j]? = some ⟨true, bL L⟩ → k (.row m.length 0 L.length 1) (m ++ [⟨true, bL L⟩]) →
      ∃ (g2 : List Nat) (s2 : SV) (m2 : Mem), g2.Nodup ∧ FitM g2 m' g2 m2 ∧ (∀ o ∈ m2, o.own = true) ∧ Le g2 s2 (.row j 0 L.length 1) ∧ k (s2.up m.length) (m ++ m2.map (SObj.up m.length)) := by
    intro L m' j hm h3
    refine ⟨[j], .row 0 0 L.length 1, [⟨true, bL L⟩], by simp, ?_, by simp, by simp only [Le]; rfl, ?_⟩
    · simp [FitM, ObLe, bL_le, hm]
    · simpa [SV.up, SObj.up, bL_up] using h3
  have c1 := bL_len bs
  have c2 := bL_one bs
  have start : ∀ (m0 : Mem) (j : Nat), m0[j]? = some ⟨true, bL bs⟩ → True := fun _ _ _ => trivial
  by_cases h0 : bs.length = 0
  · have hbs : bs = [] := List.length_eq_zero_iff.1 h0
    subst hbs
    have n0 : ∀ p, @inpL J p 0 = some [] := fun p => rfl
    simp (maxSteps := 2000000) -implicitDefEqProofs only [↓x58, ↓r58, ↓c103, n0, s_alt, s_alt20, s_alt2t, s_alt2f, ↓s_loopi, ↓v_pq, ↓PRE, POST, CORE, Nat.reduceDiv, Nat.reduceMod, Int.reduceLT, Int.reduceLE, Int.reduceToNat, Int.reduceAdd, ↓reduceIte, Nat.reduceEqDiff, Nat.reduceAdd, Nat.reduceMul, Nat.reduceSub, Nat.reduceLeDiff, Nat.reduceLT, reduceCtorEq, if_true, eq_self, forall_const, implies_true]
    split
    · rename_i hf
      have hf : fitsF v n = false := by simpa using hf
      have e : putF ([] : List Int) v n = ([] : List Int) := by unfold putF; rw [hf]; simp
      rw [e] at hk
      exact fin ([] : List Int) _ 0 rfl hk
    · rename_i hf
      have hf : fitsF v n = true := by simpa using hf
      have e : putF ([] : List Int) v n = ([] : List Int) ++ leF n.toNat v := by unfold putF; rw [hf]; simp
      rw [e] at hk
      have hn : n = 1 ∨ n = 2 ∨ n = 4 := by
        have := hf
        unfold fitsF sizedF at this
        simp only [Bool.and_eq_true, Bool.or_eq_true, beq_iff_eq] at this
        omega
      have hv0 : 0 ≤ v := by
        have := hf
        rw [← fitsR_eq] at this
        unfold fitsR at this
        rcases hn with rfl | rfl | rfl <;> simp at this <;> omega
      have e0 : ([] : List Int) ++ leF 0 v = ([] : List Int) := by simp [leF]
      refine TXi_of (TX_count (g103) n.toNat (fun x => [(1, .v (.int .i64 (shN x v))), (2, .v (.int .i64 n)), (7, .row 0 0 (([] : List Int) ++ leF x v).length 1), (8, .v (.int .i64 (x : Int)))]) (fun x => [⟨true, bL (([] : List Int) ++ leF x v)⟩]) (fun x => True) trivial ?_ ?_ ?_)
      · simp only [e0, shN]
        exact (by refine ⟨[0], by simp [NdL, NdA, oO_cells, oO_own, iL_nil], ?_, ?_, keep0 hJ⟩ <;> simp only [FitM, FitE, ObLe, LeL, Le, List.cons_append, List.nil_append] <;> (try (simp (maxSteps := 2000000) -implicitDefEqProofs only [bL_le, bL, List.map_nil, Sz.LeL, s_alt, s_alt20, s_alt2t, s_alt2f, ↓s_loopi, ↓v_pq, ↓PRE, POST, CORE, Nat.reduceDiv, Nat.reduceMod, Int.reduceLT, Int.reduceLE, Int.reduceToNat, Int.reduceAdd, ↓reduceIte, Nat.reduceEqDiff, Nat.reduceAdd, Nat.reduceMul, Nat.reduceSub, Nat.reduceLeDiff, Nat.reduceLT, reduceCtorEq, if_true, eq_self, forall_const, implies_true])) <;> (try simp only [Sz.Le, Sz.LeL, List.getElem?_cons_zero, List.getElem?_cons_succ]) <;> (try simp))
      · intro x hx _
        have i0 : (0 : Int) ≤ (x : Int) := by omega
        have i1 : (x : Int) < n := by omega
        have w1 : IntKind.i64.wrap ((x : Int) + 1) = (x : Int) + 1 := Sz.w_64 (by omega) (by omega)
        have hlen : (([] : List Int) ++ leF x v).length ≤ 900004 := by rw [List.length_append, leF_len]; first | omega | (simp only [List.length_nil, Nat.zero_add]; omega)
        have h3 : ([] : List Int) ++ leF (x + 1) v = (([] : List Int) ++ leF x v) ++ [IntKind.u8.wrap (shN x v)] := by rw [leF_succ, List.append_assoc]
        have h4 : shN (x + 1) v = (shN x v).fdiv (2 ^ (min (8 : Int).toNat IntKind.i64.bits)) := rfl
        have w2 := tm_u8 (shN_ok hv0 hv x).1
        have w3 := td_sh (shN_ok hv0 hv x).1 (shN_ok hv0 hv x).2
        rw [h3, h4]
        generalize ([] : List Int) ++ leF x v = L at hlen ⊢
        generalize shN x v = y at w2 w3 ⊢
        have hb2 : bL (L ++ [IntKind.u8.wrap y]) = bL L ++ [.v (.int .u8 (IntKind.u8.wrap y))] := by simp [bL]
        have hl2 : (L ++ [IntKind.u8.wrap y]).length = L.length + 1 := by simp
        have b1 := bL_len L
        have b3 : List.take L.length (bL L) = bL L := List.take_of_length_le (by rw [b1]; exact Nat.le_refl _)
        have hle : ∀ g, LeL g (bL L ++ [SV.v (.int .u8 (IntKind.u8.wrap y))]) (bL L ++ [SV.v (.int .u8 (IntKind.u8.wrap y))]) := fun g => by rw [← hb2]; exact bL_le g _
        rw [hb2, hl2]
        simp (maxSteps := 2000000) -implicitDefEqProofs only [i0, i1, w1, w2, w3, b1, b3, s_alt, s_alt20, s_alt2t, s_alt2f, ↓s_loopi, ↓v_pq, ↓PRE, POST, CORE, Nat.reduceDiv, Nat.reduceMod, Int.reduceLT, Int.reduceLE, Int.reduceToNat, Int.reduceAdd, ↓reduceIte, Nat.reduceEqDiff, Nat.reduceAdd, Nat.reduceMul, Nat.reduceSub, Nat.reduceLeDiff, Nat.reduceLT, reduceCtorEq, if_true, eq_self, forall_const, implies_true]
        refine ⟨by omega, ⟨by unfold maxLen; omega, by omega⟩, ?_⟩
        first
          | exact (by refine ⟨[2], by simp [NdL, NdA, oO_cells, oO_own, iL_nil], ?_, ?_, keep0 hJ⟩ <;> simp only [FitM, FitE, ObLe, LeL, Le, List.cons_append, List.nil_append] <;> (try (simp (maxSteps := 2000000) -implicitDefEqProofs only [hle, s_alt, s_alt20, s_alt2t, s_alt2f, ↓s_loopi, ↓v_pq, ↓PRE, POST, CORE, Nat.reduceDiv, Nat.reduceMod, Int.reduceLT, Int.reduceLE, Int.reduceToNat, Int.reduceAdd, ↓reduceIte, Nat.reduceEqDiff, Nat.reduceAdd, Nat.reduceMul, Nat.reduceSub, Nat.reduceLeDiff, Nat.reduceLT, reduceCtorEq, if_true, eq_self, forall_const, implies_true])) <;> (try simp only [Sz.Le, Sz.LeL, List.getElem?_cons_zero, List.getElem?_cons_succ]) <;> (try simp))
          | exact ⟨by omega, (by refine ⟨[2], by simp [NdL, NdA, oO_cells, oO_own, iL_nil], ?_, ?_, keep0 hJ⟩ <;> simp only [FitM, FitE, ObLe, LeL, Le, List.cons_append, List.nil_append] <;> (try (simp (maxSteps := 2000000) -implicitDefEqProofs only [hle, s_alt, s_alt20, s_alt2t, s_alt2f, ↓s_loopi, ↓v_pq, ↓PRE, POST, CORE, Nat.reduceDiv, Nat.reduceMod, Int.reduceLT, Int.reduceLE, Int.reduceToNat, Int.reduceAdd, ↓reduceIte, Nat.reduceEqDiff, Nat.reduceAdd, Nat.reduceMul, Nat.reduceSub, Nat.reduceLeDiff, Nat.reduceLT, reduceCtorEq, if_true, eq_self, forall_const, implies_true])) <;> (try simp only [Sz.Le, Sz.LeL, List.getElem?_cons_zero, List.getElem?_cons_succ]) <;> (try simp))⟩
      · intro _
        have i1 : ¬ ((n.toNat : Int) < n) := by omega
        simp (maxSteps := 2000000) -implicitDefEqProofs only [i1, s_alt, s_alt20, s_alt2t, s_alt2f, ↓s_loopi, ↓v_pq, ↓PRE, POST, CORE, Nat.reduceDiv, Nat.reduceMod, Int.reduceLT, Int.reduceLE, Int.reduceToNat, Int.reduceAdd, ↓reduceIte, Nat.reduceEqDiff, Nat.reduceAdd, Nat.reduceMul, Nat.reduceSub, Nat.reduceLeDiff, Nat.reduceLT, reduceCtorEq, if_true, eq_self, forall_const, implies_true]
        exact fin (([] : List Int) ++ leF n.toNat v) _ 0 rfl hk
  · have h2 : 0 < bs.length := by omega
    simp (maxSteps := 2000000) -implicitDefEqProofs only [↓x58, ↓r58, ↓c103, hin, bL_fold, c1, c2, h0, h2, s_alt, s_alt20, s_alt2t, s_alt2f, ↓s_loopi, ↓v_pq, ↓PRE, POST, CORE, Nat.reduceDiv, Nat.reduceMod, Int.reduceLT, Int.reduceLE, Int.reduceToNat, Int.reduceAdd, ↓reduceIte, Nat.reduceEqDiff, Nat.reduceAdd, Nat.reduceMul, Nat.reduceSub, Nat.reduceLeDiff, Nat.reduceLT, reduceCtorEq, if_true, eq_self, forall_const, implies_true]
    refine ⟨⟨by unfold maxLen; omega, by omega⟩, ?_⟩
    split
    · rename_i hf
      have hf : fitsF v n = false := by simpa using hf
      have e : putF bs v n = bs := by unfold putF; rw [hf]; simp
      rw [e] at hk
      exact fin bs _ 1 rfl hk
    · rename_i hf
      have hf : fitsF v n = true := by simpa using hf
      have e : putF bs v n = bs ++ leF n.toNat v := by unfold putF; rw [hf]; simp
      rw [e] at hk
      have hn : n = 1 ∨ n = 2 ∨ n = 4 := by
        have := hf
        unfold fitsF sizedF at this
        simp only [Bool.and_eq_true, Bool.or_eq_true, beq_iff_eq] at this
        omega
      have hv0 : 0 ≤ v := by
        have := hf
        rw [← fitsR_eq] at this
        unfold fitsR at this
        rcases hn with rfl | rfl | rfl <;> simp at this <;> omega
      have e0 : bs ++ leF 0 v = bs := by simp [leF]
      refine TXi_of (TX_count (g103) n.toNat (fun x => [(1, .v (.int .i64 (shN x v))), (2, .v (.int .i64 n)), (7, .row 0 0 (bs ++ leF x v).length 1), (8, .v (.int .i64 (x : Int)))]) (fun x => [⟨true, bL (bs ++ leF x v)⟩]) (fun x => True) trivial ?_ ?_ ?_)
      · simp only [e0, shN]
        exact (by refine ⟨[1], by simp [NdL, NdA, oO_cells, oO_own, iL_nil], ?_, ?_, keep0 hJ⟩ <;> simp only [FitM, FitE, ObLe, LeL, Le, List.cons_append, List.nil_append] <;> (try (simp (maxSteps := 2000000) -implicitDefEqProofs only [bL_le, s_alt, s_alt20, s_alt2t, s_alt2f, ↓s_loopi, ↓v_pq, ↓PRE, POST, CORE, Nat.reduceDiv, Nat.reduceMod, Int.reduceLT, Int.reduceLE, Int.reduceToNat, Int.reduceAdd, ↓reduceIte, Nat.reduceEqDiff, Nat.reduceAdd, Nat.reduceMul, Nat.reduceSub, Nat.reduceLeDiff, Nat.reduceLT, reduceCtorEq, if_true, eq_self, forall_const, implies_true])) <;> (try simp only [Sz.Le, Sz.LeL, List.getElem?_cons_zero, List.getElem?_cons_succ]) <;> (try simp))
      · intro x hx _
        have i0 : (0 : Int) ≤ (x : Int) := by omega
        have i1 : (x : Int) < n := by omega
        have w1 : IntKind.i64.wrap ((x : Int) + 1) = (x : Int) + 1 := Sz.w_64 (by omega) (by omega)
        have hlen : (bs ++ leF x v).length ≤ 900004 := by rw [List.length_append, leF_len]; first | omega | (simp only [List.length_nil, Nat.zero_add]; omega)
        have h3 : bs ++ leF (x + 1) v = (bs ++ leF x v) ++ [IntKind.u8.wrap (shN x v)] := by rw [leF_succ, List.append_assoc]
        have h4 : shN (x + 1) v = (shN x v).fdiv (2 ^ (min (8 : Int).toNat IntKind.i64.bits)) := rfl
        have w2 := tm_u8 (shN_ok hv0 hv x).1
        have w3 := td_sh (shN_ok hv0 hv x).1 (shN_ok hv0 hv x).2
        rw [h3, h4]
        generalize bs ++ leF x v = L at hlen ⊢
        generalize shN x v = y at w2 w3 ⊢
        have hb2 : bL (L ++ [IntKind.u8.wrap y]) = bL L ++ [.v (.int .u8 (IntKind.u8.wrap y))] := by simp [bL]
        have hl2 : (L ++ [IntKind.u8.wrap y]).length = L.length + 1 := by simp
        have b1 := bL_len L
        have b3 : List.take L.length (bL L) = bL L := List.take_of_length_le (by rw [b1]; exact Nat.le_refl _)
        have hle : ∀ g, LeL g (bL L ++ [SV.v (.int .u8 (IntKind.u8.wrap y))]) (bL L ++ [SV.v (.int .u8 (IntKind.u8.wrap y))]) := fun g => by rw [← hb2]; exact bL_le g _
        rw [hb2, hl2]
        simp (maxSteps := 2000000) -implicitDefEqProofs only [i0, i1, w1, w2, w3, b1, b3, s_alt, s_alt20, s_alt2t, s_alt2f, ↓s_loopi, ↓v_pq, ↓PRE, POST, CORE, Nat.reduceDiv, Nat.reduceMod, Int.reduceLT, Int.reduceLE, Int.reduceToNat, Int.reduceAdd, ↓reduceIte, Nat.reduceEqDiff, Nat.reduceAdd, Nat.reduceMul, Nat.reduceSub, Nat.reduceLeDiff, Nat.reduceLT, reduceCtorEq, if_true, eq_self, forall_const, implies_true]
        refine ⟨by omega, ⟨by unfold maxLen; omega, by omega⟩, ?_⟩
        first
          | exact (by refine ⟨[2], by simp [NdL, NdA, oO_cells, oO_own, iL_nil], ?_, ?_, keep0 hJ⟩ <;> simp only [FitM, FitE, ObLe, LeL, Le, List.cons_append, List.nil_append] <;> (try (simp (maxSteps := 2000000) -implicitDefEqProofs only [hle, s_alt, s_alt20, s_alt2t, s_alt2f, ↓s_loopi, ↓v_pq, ↓PRE, POST, CORE, Nat.reduceDiv, Nat.reduceMod, Int.reduceLT, Int.reduceLE, Int.reduceToNat, Int.reduceAdd, ↓reduceIte, Nat.reduceEqDiff, Nat.reduceAdd, Nat.reduceMul, Nat.reduceSub, Nat.reduceLeDiff, Nat.reduceLT, reduceCtorEq, if_true, eq_self, forall_const, implies_true])) <;> (try simp only [Sz.Le, Sz.LeL, List.getElem?_cons_zero, List.getElem?_cons_succ]) <;> (try simp))
          | exact ⟨by omega, (by refine ⟨[2], by simp [NdL, NdA, oO_cells, oO_own, iL_nil], ?_, ?_, keep0 hJ⟩ <;> simp only [FitM, FitE, ObLe, LeL, Le, List.cons_append, List.nil_append] <;> (try (simp (maxSteps := 2000000) -implicitDefEqProofs only [hle, s_alt, s_alt20, s_alt2t, s_alt2f, ↓s_loopi, ↓v_pq, ↓PRE, POST, CORE, Nat.reduceDiv, Nat.reduceMod, Int.reduceLT, Int.reduceLE, Int.reduceToNat, Int.reduceAdd, ↓reduceIte, Nat.reduceEqDiff, Nat.reduceAdd, Nat.reduceMul, Nat.reduceSub, Nat.reduceLeDiff, Nat.reduceLT, reduceCtorEq, if_true, eq_self, forall_const, implies_true])) <;> (try simp only [Sz.Le, Sz.LeL, List.getElem?_cons_zero, List.getElem?_cons_succ]) <;> (try simp))⟩
      · intro _
        have i1 : ¬ ((n.toNat : Int) < n) := by omega
        simp (maxSteps := 2000000) -implicitDefEqProofs only [i1, s_alt, s_alt20, s_alt2t, s_alt2f, ↓s_loopi, ↓v_pq, ↓PRE, POST, CORE, Nat.reduceDiv, Nat.reduceMod, Int.reduceLT, Int.reduceLE, Int.reduceToNat, Int.reduceAdd, ↓reduceIte, Nat.reduceEqDiff, Nat.reduceAdd, Nat.reduceMul, Nat.reduceSub, Nat.reduceLeDiff, Nat.reduceLT, reduceCtorEq, if_true, eq_self, forall_const, implies_true]
        exact fin (bs ++ leF n.toNat v) _ 0 rfl hk
end Go.Proofs.Ytibefgdjijmncaa
end
section
namespace Go.Proofs.Ytibefgdjijmncaa
open Go.RowKit Sz
set_option maxHeartbeats 4000000
set_option maxRecDepth 20000
-- almshouse/almshouseref01.Text (2 parameters)
def x60 : XC := (.seq (.tree (.seq ⟨some 4, none, (.ofA (.mv (.cst (.v (.slice none 0 0)))))⟩
 .done))
 (.seq (.seq (.tree (.seq ⟨some 5, none, (.ofA (.mv (.tmp 1)))⟩
 (.seq ⟨some 6, none, (.ofA (.lens (.tmp 5)))⟩
 (.seq ⟨some 7, none, (.ofA (.bin .gtr (.tmp 6) (.cst (.v (.int .i64 65535)))))⟩
 .done))))
 (.cond (.tmp 7)
 (.seq (.tree (.seq ⟨some 8, none, (.buildSl 1 0 [] [])⟩
 (.seq ⟨some 9, none, (.ofA (.mv (.tmp 0)))⟩
 (.seq ⟨some 10, none, (.app 1 1 (.tmp 8) (.tmp 9))⟩
 (.seq ⟨some 4, none, (.ofA (.mv (.tmp 10)))⟩
 .done)))))
 .ret)
 .skip))
 (.seq (.tree (.seq ⟨some 11, none, (.ofA (.mv (.tmp 0)))⟩
 (.seq ⟨some 12, none, (.ofA (.mv (.tmp 1)))⟩
 (.seq ⟨some 13, none, (.ofA (.lens (.tmp 12)))⟩
 (.seq ⟨some 14, none, (.call (.cst (.fn 58 [])) [(.tmp 11), (.tmp 13), (.cst (.v (.int .i64 2)))])⟩
 (.seq ⟨some 15, none, (.ofA (.mv (.tmp 1)))⟩
 (.seq ⟨some 16, none, (.s2b (.tmp 15))⟩
 (.seq ⟨some 17, none, (.app 1 1 (.tmp 14) (.tmp 16))⟩
 (.seq ⟨some 4, none, (.ofA (.mv (.tmp 17)))⟩
 .done)))))))))
 .ret)))
def r60 : List XR := [.tmp 4]
theorem fn60 : FnX Try.prog 60 [] 18 x60 r60 := ⟨_, Try.func60, by kernel_rfl, by kernel_rfl, by kernel_rfl, by kernel_rfl⟩
def c60 [Inp] : Trans := fun args m k => match args with
  | [s, .v (.string t)] => ∃ bs : List Int, rdB m s = some bs ∧ bs.length ≤ 800000 ∧ (t.size : Int) ≤ 65535 ∧ k (.row m.length 0 (textF bs t).length 1) (m ++ [⟨true, bL (textF bs t)⟩])
  | _ => False
theorem g58 [Inp] : GOk Try.prog [⟨58, true, c58⟩] := GOk.cons c58_ok (g0 _)
theorem fin_own {k : SV → Mem → Prop} {m : Mem} (L : List Int) (m' : Mem) (j : Nat) (hm : m'[j]? = some ⟨true, bL L⟩) (h3 : k (.row m.length 0 L.length 1) (m ++ [⟨true, bL L⟩])) :
    ∃ (g2 : List Nat) (s2 : SV) (m2 : Mem), g2.Nodup ∧ FitM g2 m' g2 m2 ∧ (∀ o ∈ m2, o.own = true) ∧ Le g2 s2 (.row j 0 L.length 1) ∧ k (s2.up m.length) (m ++ m2.map (SObj.up m.length)) := by
  refine ⟨[j], .row 0 0 L.length 1, [⟨true, bL L⟩], by simp, ?_, by simp, by simp only [Le]; rfl, ?_⟩
  · simp [FitM, ObLe, bL_le, hm]
  · simpa [SV.up, SObj.up, bL_up] using h3
theorem c60_ok [Inp] : Contract Try.prog 60 true c60 := by
  refine .readF fn60 (G := fun J => [⟨58, true, @c58 J⟩]) (fun J => @g58 J) _ fun args m k h => ?_
  unfold c60 at h
  split at h
  case h_2 => exact h.elim
  rename_i b t
  obtain ⟨bs, hb, hmax, ht, hk⟩ := h
  refine ⟨by simp, fun J hJ us hus => ?_⟩
  obtain ⟨u, t1, rfl, hk1, u2, t2, rfl, hk2, rfl⟩ := hus
  obtain rfl := hk2.1 _ rfl
  obtain ⟨p, c, rfl, hin⟩ := rdB_knows hb hk1
  have hr : ∀ m, rdB m (.v (.slice p bs.length c)) = some bs := fun m => rdB_v hin
  have ht2 : ¬ 65535 < (t.size : Int) := by omega
  have e : textF bs t = putF bs t.size 2 ++ strL t := if_neg ht2
  rw [e] at hk
  have hpl : (putF bs (t.size : Int) 2).length = bs.length + 2 := by unfold putF; rw [fits2 (by omega) (by omega)]; simp [leF_len]
  simp (maxSteps := 2000000) -implicitDefEqProofs only [↓x60, ↓r60, ↓c58, ht2, s_alt, s_alt20, s_alt2t, s_alt2f, ↓s_loopi, ↓v_pq, ↓PRE, POST, CORE, Nat.reduceDiv, Nat.reduceMod, Int.reduceLT, Int.reduceLE, Int.reduceToNat, Int.reduceAdd, ↓reduceIte, Nat.reduceEqDiff, Nat.reduceAdd, Nat.reduceMul, Nat.reduceSub, Nat.reduceLeDiff, Nat.reduceLT, reduceCtorEq, if_true, eq_self, forall_const, implies_true]
  refine ⟨bs, hr _, by omega, by omega, ?_⟩
  generalize putF bs (t.size : Int) 2 = L at hk hpl ⊢
  have b1 := bL_len L
  have b3 : List.take L.length (bL L) = bL L := List.take_of_length_le (by rw [b1]; exact Nat.le_refl _)
  have hs0 := strL_len t
  have d1 := bL_len (strL t)
  have d2 := bL_one (strL t)
  have d3 : List.take t.size (bL (strL t)) = bL (strL t) := List.take_of_length_le (by rw [d1, hs0]; exact Nat.le_refl _)
  simp (maxSteps := 2000000) -implicitDefEqProofs only [b1, b3, bytesC_bL, d1, d2, d3, hs0, s_alt, s_alt20, s_alt2t, s_alt2f, ↓s_loopi, ↓v_pq, ↓PRE, POST, CORE, Nat.reduceDiv, Nat.reduceMod, Int.reduceLT, Int.reduceLE, Int.reduceToNat, Int.reduceAdd, ↓reduceIte, Nat.reduceEqDiff, Nat.reduceAdd, Nat.reduceMul, Nat.reduceSub, Nat.reduceLeDiff, Nat.reduceLT, reduceCtorEq, if_true, eq_self, forall_const, implies_true]
  split
  · rename_i h0
    have : strL t = [] := List.length_eq_zero_iff.1 (by omega)
    rw [this, List.append_nil] at hk
    exact fin_own L _ 0 rfl hk
  · refine ⟨⟨by omega, by unfold maxLen; omega, by omega⟩, ?_⟩
    have e3 : bL L ++ bL (strL t) = bL (L ++ strL t) := by simp [bL]
    have e4 : L.length + t.size = (L ++ strL t).length := by simp [hs0]
    rw [e3, e4]
    exact fin_own (L ++ strL t) _ 2 rfl hk
end Go.Proofs.Ytibefgdjijmncaa
end
section
namespace Go.Proofs.Ytibefgdjijmncaa
open Go.RowKit Sz
set_option maxHeartbeats 4000000
set_option maxRecDepth 20000
-- almshouse/almshouseref02.Of (1 parameters)
def x102 : XC := (.seq (.tree (.seq ⟨some 2, none, (.ofA (.mv (.cst (.v (.int .u32 0)))))⟩
 .done))
 (.seq (.tree (.seq ⟨some 3, none, (.ofA (.mv (.cst (.v (.int .u32 4294967295)))))⟩
 .done))
 (.seq (.seq (.tree (.seq ⟨some 9, none, (.ofA (.mv (.tmp 0)))⟩
 (.seq ⟨some 10, none, (.ofA (.len (.tmp 9)))⟩
 (.seq ⟨some 11, none, (.ofA (.mv (.cst (.v (.int .i64 0)))))⟩
 .done))))
 (.block 0 (.loop (.seq (.tree (.seq ⟨some 12, none, (.ofA (.bin .lss (.tmp 11) (.tmp 10)))⟩
 .done))
 (.seq (.cond (.tmp 12)
 .skip
 (.exit 0))
 (.seq (.block 1 (.seq (.tree (.seq ⟨some 13, none, (.ofA (.isl 1 (.tmp 9) (.tmp 11)))⟩
 (.seq ⟨some 14, none, (.ofA (.load none (.tmp 13)))⟩
 (.seq ⟨some 5, none, (.ofA (.mv (.tmp 14)))⟩
 .done))))
 (.seq (.tree (.seq ⟨some 6, none, (.ofA (.mv (.cst (.v (.int .i64 0)))))⟩
 .done))
 (.block 2 (.loop (.seq (.seq (.tree (.seq ⟨some 15, none, (.ofA (.mv (.tmp 6)))⟩
 (.seq ⟨some 16, none, (.ofA (.bin .lss (.tmp 15) (.cst (.v (.int .i64 8)))))⟩
 .done)))
 (.cond (.tmp 16)
 .skip
 (.exit 2)))
 (.seq (.block 3 (.seq (.tree (.seq ⟨some 19, none, (.ofA (.mv (.tmp 5)))⟩
 (.seq ⟨some 20, none, (.ofA (.conv .u32 (.tmp 19)))⟩
 (.seq ⟨some 21, none, (.ofA (.bin .rem (.tmp 20) (.cst (.v (.int .u32 2)))))⟩
 (.seq ⟨some 7, none, (.ofA (.mv (.tmp 21)))⟩
 .done)))))
 (.seq (.tree (.seq ⟨some 22, none, (.ofA (.mv (.tmp 5)))⟩
 (.seq ⟨some 23, none, (.ofA (.bin .quo (.tmp 22) (.cst (.v (.int .u8 2)))))⟩
 (.seq ⟨some 5, none, (.ofA (.mv (.tmp 23)))⟩
 .done))))
 (.seq (.tree (.seq ⟨some 24, none, (.ofA (.mv (.tmp 3)))⟩
 (.seq ⟨some 25, none, (.ofA (.bin .rem (.tmp 24) (.cst (.v (.int .u32 2)))))⟩
 (.seq ⟨some 26, none, (.ofA (.mv (.tmp 7)))⟩
 (.seq ⟨some 27, none, (.ofA (.bin .neq (.tmp 25) (.tmp 26)))⟩
 (.seq ⟨some 8, none, (.ofA (.mv (.tmp 27)))⟩
 .done))))))
 (.seq (.tree (.seq ⟨some 28, none, (.ofA (.mv (.tmp 3)))⟩
 (.seq ⟨some 29, none, (.ofA (.bin .quo (.tmp 28) (.cst (.v (.int .u32 2)))))⟩
 (.seq ⟨some 3, none, (.ofA (.mv (.tmp 29)))⟩
 .done))))
 (.seq (.tree (.seq ⟨some 30, none, (.ofA (.mv (.tmp 8)))⟩
 .done))
 (.cond (.tmp 30)
 (.tree (.seq ⟨some 31, none, (.ofA (.mv (.tmp 3)))⟩
 (.seq ⟨some 32, none, (.ofA (.bin .xor (.tmp 31) (.cst (.v (.int .u32 2197175160)))))⟩
 (.seq ⟨some 3, none, (.ofA (.mv (.tmp 32)))⟩
 .done))))
 .skip)))))))
 (.tree (.seq ⟨some 17, none, (.ofA (.mv (.tmp 6)))⟩
 (.seq ⟨some 18, none, (.ofA (.bin .add (.tmp 17) (.cst (.v (.int .i64 1)))))⟩
 (.seq ⟨some 6, none, (.ofA (.mv (.tmp 18)))⟩
 .done)))))))))))
 (.tree (.seq ⟨some 33, none, (.ofA (.bin .add (.tmp 11) (.cst (.v (.int .i64 1)))))⟩
 (.seq ⟨some 11, none, (.ofA (.mv (.tmp 33)))⟩
 .done)))))))))
 (.seq (.tree (.seq ⟨some 34, none, (.ofA (.mv (.tmp 3)))⟩
 (.seq ⟨some 35, none, (.ofA (.un .xor (.tmp 34)))⟩
 (.seq ⟨some 2, none, (.ofA (.mv (.tmp 35)))⟩
 .done))))
 .ret))))
def r102 : List XR := [.tmp 2]
theorem fn102 : FnX Try.prog 102 [] 36 x102 r102 := ⟨_, Try.func102, by kernel_rfl, by kernel_rfl, by kernel_rfl, by kernel_rfl⟩
def rbV (v c : Int) : Int := if (v.tmod 2 != (IntKind.u32.wrap c).tmod 2) = true then xoI (IntKind.u32.wrap (v.tdiv 2)) 2197175160 else IntKind.u32.wrap (v.tdiv 2)
def rbC (c : Int) : Int := IntKind.u8.wrap (c.tdiv 2)
def rcN : Nat → Int → Int
  | 0, c => c
  | i + 1, c => rbC (rcN i c)
def rvN : Nat → Int → Int → Int
  | 0, v, c => v
  | i + 1, v, c => rbV (rvN i v c) (rcN i c)
def rsF (v : Int) (bs : List Int) : Int := bs.foldl (fun v c => rvN 8 v c) v
theorem rsF_snoc {v : Int} {bs : List Int} {x : Nat} {c : Int} (h : bs[x]? = some c) : rsF v (bs.take (x + 1)) = rvN 8 (rsF v (bs.take x)) c := by
  unfold rsF
  rw [List.take_add_one, h]
  simp
def c102 [Inp] : Trans := fun args m k => match args with
  | [s] => ∃ bs : List Int, rdB m s = some bs ∧ bs.length ≤ 9223372036854775807 ∧ k (.v (.int .u32 (noI (rsF 4294967295 bs)))) m
  | _ => False
theorem c102_ok [Inp] : Contract Try.prog 102 true c102 := by
  refine .read fn102 (G := fun J => []) (fun J => @g0 J _) _ fun args m k h => ?_
  unfold c102 at h
  split at h
  case h_2 => exact h.elim
  rename_i b
  obtain ⟨bs, hb, hmax, hk⟩ := h
  refine ⟨by simp, fun J hJ vs hvs => ?_⟩
  obtain ⟨u2, t2, rfl, hk2, rfl⟩ := hvs
  obtain ⟨p, c, rfl, hin⟩ := rdB_knows hb hk2
  simp (maxSteps := 2000000) -implicitDefEqProofs only [↓x102, ↓r102, s_alt, s_alt20, s_alt2t, s_alt2f, ↓s_loopi, ↓v_pq, ↓PRE, POST, CORE, Nat.reduceDiv, Nat.reduceMod, Int.reduceLT, Int.reduceLE, Int.reduceToNat, Int.reduceAdd, ↓reduceIte, Nat.reduceEqDiff, Nat.reduceAdd, Nat.reduceMul, Nat.reduceSub, Nat.reduceLeDiff, Nat.reduceLT, reduceCtorEq, if_true, eq_self, forall_const, implies_true]
  refine TXi_of (TX_count (g0 _) bs.length (fun x => [(3, .v (.int .u32 (rsF 4294967295 (bs.take x)))), (9, .v (.slice p bs.length c)), (10, .v (.int .i64 (bs.length : Int))), (11, .v (.int .i64 (x : Int)))]) (fun x => []) (fun x => True) trivial ?_ ?_ ?_)
  · exact (by refine ⟨[], by simp [NdL, NdA, oO_cells, oO_own, iL_nil], ?_, ?_, keep0 hJ⟩ <;> simp only [FitM, FitE, ObLe, LeL, Le, List.cons_append, List.nil_append] <;> (try (simp (maxSteps := 2000000) -implicitDefEqProofs only [List.take_zero, rsF, List.foldl_nil, s_alt, s_alt20, s_alt2t, s_alt2f, ↓s_loopi, ↓v_pq, ↓PRE, POST, CORE, Nat.reduceDiv, Nat.reduceMod, Int.reduceLT, Int.reduceLE, Int.reduceToNat, Int.reduceAdd, ↓reduceIte, Nat.reduceEqDiff, Nat.reduceAdd, Nat.reduceMul, Nat.reduceSub, Nat.reduceLeDiff, Nat.reduceLT, reduceCtorEq, if_true, eq_self, forall_const, implies_true])) <;> (try simp only [Sz.Le, Sz.LeL, List.getElem?_cons_zero, List.getElem?_cons_succ]) <;> (try simp))
  · intro x hx _
    obtain ⟨b0, hb0⟩ : ∃ b0, bs[x]? = some b0 := ⟨_, List.getElem?_eq_getElem hx⟩
    have f := inpB_at hin hb0
    have hp : p.isSome = true := inpL_isSome hin (by omega)
    have i0 : (0 : Int) ≤ (x : Int) := by omega
    have i1 : (x : Int) < (bs.length : Int) := by omega
    have w1 : IntKind.i64.wrap ((x : Int) + 1) = (x : Int) + 1 := Sz.w_64 (by omega) (by omega)
    have e := rsF_snoc (v := 4294967295) hb0
    generalize rsF 4294967295 (bs.take x) = y at e ⊢
    simp (maxSteps := 2000000) -implicitDefEqProofs only [f, hp, i0, i1, w1, s_alt, s_alt20, s_alt2t, s_alt2f, ↓s_loopi, ↓v_pq, ↓PRE, POST, CORE, Nat.reduceDiv, Nat.reduceMod, Int.reduceLT, Int.reduceLE, Int.reduceToNat, Int.reduceAdd, ↓reduceIte, Nat.reduceEqDiff, Nat.reduceAdd, Nat.reduceMul, Nat.reduceSub, Nat.reduceLeDiff, Nat.reduceLT, reduceCtorEq, if_true, eq_self, forall_const, implies_true]
    refine TXi_of (TX_count (g0 _) 8 (fun i => [(3, .v (.int .u32 (rvN i y b0))), (5, .v (.int .u8 (rcN i b0))), (6, .v (.int .i64 (i : Int))), (9, .v (.slice p bs.length c)), (10, .v (.int .i64 (bs.length : Int))), (11, .v (.int .i64 (x : Int)))]) (fun i => []) (fun x => True) trivial ?_ ?_ ?_)
    · exact (by refine ⟨[], by simp [NdL, NdA, oO_cells, oO_own, iL_nil], ?_, ?_, keep0 hJ⟩ <;> simp only [FitM, FitE, ObLe, LeL, Le, List.cons_append, List.nil_append] <;> (try (simp (maxSteps := 2000000) -implicitDefEqProofs only [rvN, rcN, s_alt, s_alt20, s_alt2t, s_alt2f, ↓s_loopi, ↓v_pq, ↓PRE, POST, CORE, Nat.reduceDiv, Nat.reduceMod, Int.reduceLT, Int.reduceLE, Int.reduceToNat, Int.reduceAdd, ↓reduceIte, Nat.reduceEqDiff, Nat.reduceAdd, Nat.reduceMul, Nat.reduceSub, Nat.reduceLeDiff, Nat.reduceLT, reduceCtorEq, if_true, eq_self, forall_const, implies_true])) <;> (try simp only [Sz.Le, Sz.LeL, List.getElem?_cons_zero, List.getElem?_cons_succ]) <;> (try simp))
    · intro i hi _
      have j1 : (i : Int) < 8 := by omega
      have w2 : IntKind.i64.wrap ((i : Int) + 1) = (i : Int) + 1 := Sz.w_64 (by omega) (by omega)
      have ec : rcN (i + 1) b0 = IntKind.u8.wrap ((rcN i b0).tdiv 2) := rfl
      have ev : rvN (i + 1) y b0 = rbV (rvN i y b0) (rcN i b0) := rfl
      rw [ec, ev]
      generalize rcN i b0 = cc
      generalize rvN i y b0 = vv
      have q2 : ((2 : Int) = 0) = False := by simp
      simp (maxSteps := 2000000) -implicitDefEqProofs only [j1, w2, q2, ne_eq, not_false_eq_true, false_implies, s_alt, s_alt20, s_alt2t, s_alt2f, ↓s_loopi, ↓v_pq, ↓PRE, POST, CORE, Nat.reduceDiv, Nat.reduceMod, Int.reduceLT, Int.reduceLE, Int.reduceToNat, Int.reduceAdd, ↓reduceIte, Nat.reduceEqDiff, Nat.reduceAdd, Nat.reduceMul, Nat.reduceSub, Nat.reduceLeDiff, Nat.reduceLT, reduceCtorEq, if_true, eq_self, forall_const, implies_true]
      split
      · rename_i hc
        have er : rbV vv cc = xoI (IntKind.u32.wrap (vv.tdiv 2)) 2197175160 := if_pos hc
        rw [er]
        exact (by refine ⟨[], by simp [NdL, NdA, oO_cells, oO_own, iL_nil], ?_, ?_, keep0 hJ⟩ <;> simp only [FitM, FitE, ObLe, LeL, Le, List.cons_append, List.nil_append] <;> (try (simp (maxSteps := 2000000) -implicitDefEqProofs only [xoI, s_alt, s_alt20, s_alt2t, s_alt2f, ↓s_loopi, ↓v_pq, ↓PRE, POST, CORE, Nat.reduceDiv, Nat.reduceMod, Int.reduceLT, Int.reduceLE, Int.reduceToNat, Int.reduceAdd, ↓reduceIte, Nat.reduceEqDiff, Nat.reduceAdd, Nat.reduceMul, Nat.reduceSub, Nat.reduceLeDiff, Nat.reduceLT, reduceCtorEq, if_true, eq_self, forall_const, implies_true])) <;> (try simp only [Sz.Le, Sz.LeL, List.getElem?_cons_zero, List.getElem?_cons_succ]) <;> (try simp))
      · rename_i hc
        have er : rbV vv cc = IntKind.u32.wrap (vv.tdiv 2) := if_neg hc
        rw [er]
        exact (by refine ⟨[], by simp [NdL, NdA, oO_cells, oO_own, iL_nil], ?_, ?_, keep0 hJ⟩ <;> simp only [FitM, FitE, ObLe, LeL, Le, List.cons_append, List.nil_append] <;> (try (simp (maxSteps := 2000000) -implicitDefEqProofs only [xoI, s_alt, s_alt20, s_alt2t, s_alt2f, ↓s_loopi, ↓v_pq, ↓PRE, POST, CORE, Nat.reduceDiv, Nat.reduceMod, Int.reduceLT, Int.reduceLE, Int.reduceToNat, Int.reduceAdd, ↓reduceIte, Nat.reduceEqDiff, Nat.reduceAdd, Nat.reduceMul, Nat.reduceSub, Nat.reduceLeDiff, Nat.reduceLT, reduceCtorEq, if_true, eq_self, forall_const, implies_true])) <;> (try simp only [Sz.Le, Sz.LeL, List.getElem?_cons_zero, List.getElem?_cons_succ]) <;> (try simp))
    · intro _
      simp (maxSteps := 2000000) -implicitDefEqProofs only [w1, s_alt, s_alt20, s_alt2t, s_alt2f, ↓s_loopi, ↓v_pq, ↓PRE, POST, CORE, Nat.reduceDiv, Nat.reduceMod, Int.reduceLT, Int.reduceLE, Int.reduceToNat, Int.reduceAdd, ↓reduceIte, Nat.reduceEqDiff, Nat.reduceAdd, Nat.reduceMul, Nat.reduceSub, Nat.reduceLeDiff, Nat.reduceLT, reduceCtorEq, if_true, eq_self, forall_const, implies_true]
      rw [e]
      exact (by refine ⟨[], by simp [NdL, NdA, oO_cells, oO_own, iL_nil], ?_, ?_, keep0 hJ⟩ <;> simp only [FitM, FitE, ObLe, LeL, Le, List.cons_append, List.nil_append] <;> (try (simp (maxSteps := 2000000) -implicitDefEqProofs only [s_alt, s_alt20, s_alt2t, s_alt2f, ↓s_loopi, ↓v_pq, ↓PRE, POST, CORE, Nat.reduceDiv, Nat.reduceMod, Int.reduceLT, Int.reduceLE, Int.reduceToNat, Int.reduceAdd, ↓reduceIte, Nat.reduceEqDiff, Nat.reduceAdd, Nat.reduceMul, Nat.reduceSub, Nat.reduceLeDiff, Nat.reduceLT, reduceCtorEq, if_true, eq_self, forall_const, implies_true])) <;> (try simp only [Sz.Le, Sz.LeL, List.getElem?_cons_zero, List.getElem?_cons_succ]) <;> (try simp))
  · intro _
    have i1 : ¬ (bs.length : Int) < (bs.length : Int) := by omega
    simp (maxSteps := 2000000) -implicitDefEqProofs only [i1, List.take_length, s_alt, s_alt20, s_alt2t, s_alt2f, ↓s_loopi, ↓v_pq, ↓PRE, POST, CORE, Nat.reduceDiv, Nat.reduceMod, Int.reduceLT, Int.reduceLE, Int.reduceToNat, Int.reduceAdd, ↓reduceIte, Nat.reduceEqDiff, Nat.reduceAdd, Nat.reduceMul, Nat.reduceSub, Nat.reduceLeDiff, Nat.reduceLT, reduceCtorEq, if_true, eq_self, forall_const, implies_true]
    exact hk
end Go.Proofs.Ytibefgdjijmncaa
end
section
namespace Go.Proofs.Ytibefgdjijmncaa
open Go.RowKit Sz
theorem xor_half (a b : Nat) : (a ^^^ b) / 2 = a / 2 ^^^ b / 2 := by
  apply Nat.eq_of_testBit_eq
  intro i
  simp only [Nat.testBit_xor, Nat.testBit_div_two]
theorem xor_odd (a b : Nat) : (a ^^^ b) % 2 = (a % 2 + b % 2) % 2 := by
  have h := Nat.testBit_xor a b 0
  simp only [Nat.testBit_zero] at h
  rcases Nat.mod_two_eq_zero_or_one a with h1 | h1 <;> rcases Nat.mod_two_eq_zero_or_one b with h2 | h2 <;> rcases Nat.mod_two_eq_zero_or_one (a ^^^ b) with h3 | h3 <;> rw [h1, h2, h3] at h <;> simp [h1, h2, h3] at h ⊢
theorem stN_eq (v : Nat) : stN v = if v % 2 = 1 then v / 2 ^^^ 2197175160 else v / 2 := by
  show (bif Nat.beq (v % 2) 1 then Nat.xor (v / 2) 2197175160 else v / 2) = _
  cases h : Nat.beq (v % 2) 1 with
  | true => rw [nbeq] at h; rw [if_pos h]; rfl
  | false => rw [nbeqf] at h; rw [if_neg h]; rfl
theorem xor4 (a b c : Nat) : (a ^^^ c) ^^^ (b ^^^ c) = a ^^^ b := by
  apply Nat.eq_of_testBit_eq
  intro i
  simp only [Nat.testBit_xor]
  cases a.testBit i <;> cases b.testBit i <;> cases c.testBit i <;> rfl
theorem xor_r (a b c : Nat) : (a ^^^ c) ^^^ b = (a ^^^ b) ^^^ c := by
  apply Nat.eq_of_testBit_eq
  intro i
  simp only [Nat.testBit_xor]
  cases a.testBit i <;> cases b.testBit i <;> cases c.testBit i <;> rfl
theorem stN_xor (a b : Nat) : stN (a ^^^ b) = stN a ^^^ stN b := by
  rw [stN_eq, stN_eq, stN_eq, xor_half, xor_odd]
  rcases Nat.mod_two_eq_zero_or_one a with h1 | h1 <;> rcases Nat.mod_two_eq_zero_or_one b with h2 | h2 <;> rw [h1, h2] <;> simp only [Nat.reduceAdd, Nat.reduceMod, reduceCtorEq, if_true, if_false, Nat.zero_ne_one]
  · exact (Nat.xor_assoc _ _ _)
  · rw [xor_r]
  · rw [xor4]
theorem crN_xor (a b : Nat) : crN (a ^^^ b) = crN a ^^^ crN b := by
  unfold crN
  simp only [stN_xor]
theorem stN_two (y : Nat) : stN (2 * y) = y := by
  rw [stN_eq, if_neg (by omega)]
  omega
theorem crN_hi (q : Nat) : crN (256 * q) = q := by
  have : 256 * q = 2 * (2 * (2 * (2 * (2 * (2 * (2 * (2 * q))))))) := by omega
  rw [this]
  unfold crN
  simp only [stN_two]
theorem hi_lo (a b : Nat) : a ^^^ b = 256 * (a / 256) ^^^ (a % 256 ^^^ b) := by
  apply Nat.eq_of_testBit_eq
  intro i
  have h1 := Nat.testBit_two_pow_mul (i := 8) (a := a / 2 ^ 8) (j := i)
  have h2 := Nat.testBit_mod_two_pow a 8 i
  have h3 : (a / 2 ^ 8).testBit (i - 8) = a.testBit (i - 8 + 8) := Nat.testBit_div_two_pow a (i - 8)
  simp only [Nat.testBit_xor]
  rw [show (256 : Nat) = 2 ^ 8 from rfl, h1, h2]
  by_cases h : 8 ≤ i
  · have e : i - 8 + 8 = i := by omega
    rw [e] at h3
    rw [h3]
    have h4 : ¬ i < 8 := by omega
    simp [h, h4]
  · have h4 : i < 8 := by omega
    simp [h, h4]
theorem onN_eq {a b : Nat} : onN a b = crN (a ^^^ b) := by
  rw [hi_lo a b, crN_xor, crN_hi]
  rfl
def bvN : Nat → Nat → Nat → Nat
  | 0, a, b => a
  | i + 1, a, b => if (bvN i a b ^^^ b / 2 ^ i) % 2 = 1 then bvN i a b / 2 ^^^ 2197175160 else bvN i a b / 2
def stK : Nat → Nat → Nat
  | 0, x => x
  | i + 1, x => stN (stK i x)
theorem bvN_ok (a b : Nat) : ∀ i, bvN i a b ^^^ b / 2 ^ i = stK i (a ^^^ b)
  | 0 => by simp [bvN, stK]
  | i + 1 => by
    have ih := bvN_ok a b i
    have e : b / 2 ^ (i + 1) = (b / 2 ^ i) / 2 := by rw [Nat.div_div_eq_div_mul, Nat.pow_succ]
    simp only [bvN, stK]
    rw [← ih, stN_eq, e, xor_half]
    by_cases h : (bvN i a b ^^^ b / 2 ^ i) % 2 = 1
    · rw [if_pos h, if_pos h, xor_r]
    · rw [if_neg h, if_neg h]
theorem bvN_lt {a b : Nat} (ha : a < 4294967296) : ∀ i, bvN i a b < 4294967296
  | 0 => ha
  | i + 1 => by
    have ih := bvN_lt (b := b) ha i
    simp only [bvN]
    split
    · exact xor_lt (by omega) (by decide)
    · omega
theorem rcN_ok {b : Nat} (hb : b < 256) : ∀ i, rcN i (Int.ofNat b) = Int.ofNat (b / 2 ^ i)
  | 0 => by simp [rcN]
  | i + 1 => by
    have e : b / 2 ^ (i + 1) = (b / 2 ^ i) / 2 := by rw [Nat.div_div_eq_div_mul, Nat.pow_succ]
    have l : b / 2 ^ i ≤ b := Nat.div_le_self _ _
    show rbC (rcN i (Int.ofNat b)) = _
    rw [rcN_ok hb i, e]
    unfold rbC
    rw [show (Int.ofNat (b / 2 ^ i)).tdiv 2 = Int.ofNat (b / 2 ^ i / 2) from rfl]
    exact fitsK_ok (k := .u8) (by simp only [fitsK, nblt, decide_eq_true_eq]; omega)
theorem rvN_ok {a b : Nat} (ha : a < 4294967296) (hb : b < 256) : ∀ i, rvN i (Int.ofNat a) (Int.ofNat b) = Int.ofNat (bvN i a b)
  | 0 => rfl
  | i + 1 => by
    show rbV (rvN i (Int.ofNat a) (Int.ofNat b)) (rcN i (Int.ofNat b)) = _
    rw [rvN_ok ha hb i, rcN_ok hb i]
    have hl := bvN_lt (b := b) ha i
    have l : b / 2 ^ i ≤ b := Nat.div_le_self _ _
    simp only [bvN]
    generalize bvN i a b = v at hl ⊢
    generalize b / 2 ^ i = c at l ⊢
    unfold rbV
    have e1 : IntKind.u32.wrap (Int.ofNat c) = Int.ofNat c := fitsK_ok (by simp only [fitsK, nblt, decide_eq_true_eq]; omega)
    have e2 : IntKind.u32.wrap ((Int.ofNat v).tdiv 2) = Int.ofNat (v / 2) := fitsK_ok (k := .u32) (n := Int.ofNat (v / 2)) (by simp only [fitsK, nblt, decide_eq_true_eq]; omega)
    rw [e1, e2]
    have hx := xor_odd v c
    have hc : (((Int.ofNat v).tmod 2 != (Int.ofNat c).tmod 2) = true) ↔ (v ^^^ c) % 2 = 1 := by
      rw [show (Int.ofNat v).tmod 2 = Int.ofNat (v % 2) from rfl, show (Int.ofNat c).tmod 2 = Int.ofNat (c % 2) from rfl, hx, bne_iff_ne]
      rcases Nat.mod_two_eq_zero_or_one v with h1 | h1 <;> rcases Nat.mod_two_eq_zero_or_one c with h2 | h2 <;> rw [h1, h2] <;> decide
    by_cases h : (v ^^^ c) % 2 = 1
    · rw [if_pos (hc.2 h), if_pos h]
      exact u32_xor (by omega) (by decide)
    · rw [if_neg (fun q => h (hc.1 q)), if_neg h]
theorem rv8_ok {a b : Nat} (ha : a < 4294967296) (hb : b < 256) : rvN 8 (Int.ofNat a) (Int.ofNat b) = onS (Int.ofNat a) (Int.ofNat b) := by
  rw [rvN_ok ha hb, onN_ok ha hb, onN_eq]
  have h := bvN_ok a b 8
  rw [Nat.div_eq_of_lt (by omega : b < 2 ^ 8), Nat.xor_zero] at h
  rw [h]
  rfl
theorem onN_lt {a b : Nat} (ha : a < 4294967296) (hb : b < 256) : onN a b < 4294967296 := by
  rw [onN_eq]
  exact crN_lt (xor_lt ha (by omega))
theorem rsF_on : ∀ {bs : List Int}, (∀ c ∈ bs, 0 ≤ c ∧ c < 256) → ∀ {v : Nat}, v < 4294967296 → rsF (Int.ofNat v) bs = onF (Int.ofNat v) bs
  | [], _, v, hv => rfl
  | c :: bs, h, v, hv => by
    obtain ⟨c0, c1⟩ := h c (by simp)
    obtain ⟨n, rfl⟩ := Int.eq_ofNat_of_zero_le c0
    have hn : n < 256 := by omega
    show rsF (rvN 8 (Int.ofNat v) (Int.ofNat n)) bs = onF (onS (Int.ofNat v) (Int.ofNat n)) bs
    rw [rv8_ok hv hn, onN_ok hv hn]
    exact rsF_on (fun c hc => h c (by simp [hc])) (onN_lt hv hn)
theorem sum_ok {bs : List Int} (h : ∀ c ∈ bs, 0 ≤ c ∧ c < 256) : noI (rsF 4294967295 bs) = sumF 0 bs := by
  unfold sumF
  have e : noI 0 = Int.ofNat 4294967295 := by
    have := noI_ok (v := 0) (by decide)
    exact this
  rw [e, ← rsF_on h (by decide)]
  rfl
end Go.Proofs.Ytibefgdjijmncaa
end
section
namespace Go.Proofs.Ytibefgdjijmncaa
open Go.RowKit Sz
set_option maxHeartbeats 4000000
set_option maxRecDepth 20000
-- almshouse/almshouseref04.Check (1 parameters)
def x21 : XC := (.seq (.tree (.seq ⟨some 1, none, (.box (.tmp 0))⟩
 (.seq ⟨some 2, none, (.ofA (.mv (.cst (.v (.int .i64 0)))))⟩
 .done)))
 (.seq (.seq (.tree (.seq ⟨some 4, none, (.ofA (.faddr 0 (.tmp 1)))⟩
 (.seq ⟨some 5, none, (.ofA (.load none (.tmp 4)))⟩
 (.seq ⟨some 6, none, (.ofA (.bin .lss (.tmp 5) (.cst (.v (.int .i64 1)))))⟩
 (.seq ⟨some 7, none, (.ofA (.mv (.tmp 6)))⟩
 (.seq ⟨some 8, some (7, false), (.ofA (.faddr 1 (.tmp 1)))⟩
 (.seq ⟨some 9, some (7, false), (.ofA (.load none (.tmp 8)))⟩
 (.seq ⟨some 10, some (7, false), (.ofA (.bin .lss (.tmp 9) (.cst (.v (.int .i64 1)))))⟩
 (.seq ⟨some 11, none, (.ofA (.pick (.tmp 7) (.cst (.v (.bool true))) (.tmp 10)))⟩
 (.seq ⟨some 12, none, (.ofA (.mv (.tmp 11)))⟩
 (.seq ⟨some 13, some (12, false), (.ofA (.faddr 2 (.tmp 1)))⟩
 (.seq ⟨some 14, some (12, false), (.ofA (.load none (.tmp 13)))⟩
 (.seq ⟨some 15, some (12, false), (.ofA (.bin .lss (.tmp 14) (.cst (.v (.int .i64 1)))))⟩
 (.seq ⟨some 16, none, (.ofA (.pick (.tmp 12) (.cst (.v (.bool true))) (.tmp 15)))⟩
 (.seq ⟨some 17, none, (.ofA (.mv (.tmp 16)))⟩
 (.seq ⟨some 18, some (17, false), (.ofA (.faddr 3 (.tmp 1)))⟩
 (.seq ⟨some 19, some (17, false), (.ofA (.load none (.tmp 18)))⟩
 (.seq ⟨some 20, some (17, false), (.ofA (.bin .lss (.tmp 19) (.cst (.v (.int .i64 2)))))⟩
 (.seq ⟨some 21, none, (.ofA (.pick (.tmp 17) (.cst (.v (.bool true))) (.tmp 20)))⟩
 .done)))))))))))))))))))
 (.cond (.tmp 21)
 (.seq (.tree (.seq ⟨some 2, none, (.ofA (.mv (.cst (.v (.int .i64 1)))))⟩
 .done))
 .ret)
 .skip))
 (.seq (.seq (.tree (.seq ⟨some 22, none, (.ofA (.faddr 0 (.tmp 1)))⟩
 (.seq ⟨some 23, none, (.ofA (.load none (.tmp 22)))⟩
 (.seq ⟨some 24, none, (.ofA (.bin .gtr (.tmp 23) (.cst (.v (.int .i64 64)))))⟩
 (.seq ⟨some 25, none, (.ofA (.mv (.tmp 24)))⟩
 (.seq ⟨some 26, some (25, false), (.ofA (.faddr 1 (.tmp 1)))⟩
 (.seq ⟨some 27, some (25, false), (.ofA (.load none (.tmp 26)))⟩
 (.seq ⟨some 28, some (25, false), (.ofA (.bin .gtr (.tmp 27) (.cst (.v (.int .i64 64)))))⟩
 (.seq ⟨some 29, none, (.ofA (.pick (.tmp 25) (.cst (.v (.bool true))) (.tmp 28)))⟩
 (.seq ⟨some 30, none, (.ofA (.mv (.tmp 29)))⟩
 (.seq ⟨some 31, some (30, false), (.ofA (.faddr 2 (.tmp 1)))⟩
 (.seq ⟨some 32, some (30, false), (.ofA (.load none (.tmp 31)))⟩
 (.seq ⟨some 33, some (30, false), (.ofA (.bin .gtr (.tmp 32) (.cst (.v (.int .i64 64)))))⟩
 (.seq ⟨some 34, none, (.ofA (.pick (.tmp 30) (.cst (.v (.bool true))) (.tmp 33)))⟩
 (.seq ⟨some 35, none, (.ofA (.mv (.tmp 34)))⟩
 (.seq ⟨some 36, some (35, false), (.ofA (.faddr 3 (.tmp 1)))⟩
 (.seq ⟨some 37, some (35, false), (.ofA (.load none (.tmp 36)))⟩
 (.seq ⟨some 38, some (35, false), (.ofA (.bin .gtr (.tmp 37) (.cst (.v (.int .i64 16)))))⟩
 (.seq ⟨some 39, none, (.ofA (.pick (.tmp 35) (.cst (.v (.bool true))) (.tmp 38)))⟩
 .done)))))))))))))))))))
 (.cond (.tmp 39)
 (.seq (.tree (.seq ⟨some 2, none, (.ofA (.mv (.cst (.v (.int .i64 4)))))⟩
 .done))
 .ret)
 .skip))
 (.seq (.tree (.seq ⟨some 40, none, (.ofA (.faddr 0 (.tmp 1)))⟩
 (.seq ⟨some 41, none, (.ofA (.load none (.tmp 40)))⟩
 (.seq ⟨some 42, none, (.ofA (.faddr 1 (.tmp 1)))⟩
 (.seq ⟨some 43, none, (.ofA (.load none (.tmp 42)))⟩
 (.seq ⟨some 44, none, (.ofA (.bin .mul (.tmp 41) (.tmp 43)))⟩
 (.seq ⟨some 45, none, (.ofA (.faddr 2 (.tmp 1)))⟩
 (.seq ⟨some 46, none, (.ofA (.load none (.tmp 45)))⟩
 (.seq ⟨some 47, none, (.ofA (.bin .mul (.tmp 44) (.tmp 46)))⟩
 (.seq ⟨some 3, none, (.ofA (.mv (.tmp 47)))⟩
 .done))))))))))
 (.seq (.seq (.tree (.seq ⟨some 48, none, (.ofA (.mv (.tmp 3)))⟩
 (.seq ⟨some 49, none, (.ofA (.bin .lss (.tmp 48) (.cst (.v (.int .i64 3)))))⟩
 .done)))
 (.cond (.tmp 49)
 (.seq (.tree (.seq ⟨some 2, none, (.ofA (.mv (.cst (.v (.int .i64 1)))))⟩
 .done))
 .ret)
 .skip))
 (.seq (.seq (.tree (.seq ⟨some 50, none, (.ofA (.mv (.tmp 3)))⟩
 (.seq ⟨some 51, none, (.ofA (.bin .gtr (.tmp 50) (.cst (.v (.int .i64 64)))))⟩
 .done)))
 (.cond (.tmp 51)
 (.seq (.tree (.seq ⟨some 2, none, (.ofA (.mv (.cst (.v (.int .i64 4)))))⟩
 .done))
 .ret)
 .skip))
 (.seq (.tree (.seq ⟨some 2, none, (.ofA (.mv (.cst (.v (.int .i64 0)))))⟩
 .done))
 .ret)))))))
def r21 : List XR := [.tmp 2]
theorem fn21 : FnX Try.prog 21 [] 52 x21 r21 := ⟨_, Try.func21, by kernel_rfl, by kernel_rfl, by kernel_rfl, by kernel_rfl⟩
-- almshouse/almshouselaw43.may (1 parameters)
def x14 : XC := (.seq (.tree (.seq ⟨some 1, none, (.box (.tmp 0))⟩
 (.seq ⟨some 2, none, (.ofA (.mv (.cst (.v (.bool false)))))⟩
 .done)))
 (.seq (.seq (.tree (.seq ⟨some 7, none, (.ofA (.faddr 0 (.tmp 1)))⟩
 (.seq ⟨some 8, none, (.ofA (.load (some 4) (.tmp 7)))⟩
 (.seq ⟨some 9, none, (.call (.cst (.fn 21 [])) [(.tmp 8)])⟩
 (.seq ⟨some 10, none, (.ofA (.bin .neq (.tmp 9) (.cst (.v (.int .i64 0)))))⟩
 (.seq ⟨some 11, none, (.ofA (.mv (.tmp 10)))⟩
 (.seq ⟨some 12, some (11, false), (.ofA (.faddr 4 (.tmp 1)))⟩
 (.seq ⟨some 13, some (11, false), (.ofA (.load none (.tmp 12)))⟩
 (.seq ⟨some 14, some (11, false), (.ofA (.len (.tmp 13)))⟩
 (.seq ⟨some 15, some (11, false), (.ofA (.faddr 0 (.tmp 1)))⟩
 (.seq ⟨some 16, some (11, false), (.ofA (.faddr 0 (.tmp 15)))⟩
 (.seq ⟨some 17, some (11, false), (.ofA (.load none (.tmp 16)))⟩
 (.seq ⟨some 18, some (11, false), (.ofA (.faddr 0 (.tmp 1)))⟩
 (.seq ⟨some 19, some (11, false), (.ofA (.faddr 1 (.tmp 18)))⟩
 (.seq ⟨some 20, some (11, false), (.ofA (.load none (.tmp 19)))⟩
 (.seq ⟨some 21, some (11, false), (.ofA (.bin .mul (.tmp 17) (.tmp 20)))⟩
 (.seq ⟨some 22, some (11, false), (.ofA (.faddr 0 (.tmp 1)))⟩
 (.seq ⟨some 23, some (11, false), (.ofA (.faddr 2 (.tmp 22)))⟩
 (.seq ⟨some 24, some (11, false), (.ofA (.load none (.tmp 23)))⟩
 (.seq ⟨some 25, some (11, false), (.ofA (.bin .mul (.tmp 21) (.tmp 24)))⟩
 (.seq ⟨some 26, some (11, false), (.ofA (.bin .neq (.tmp 14) (.tmp 25)))⟩
 (.seq ⟨some 27, none, (.ofA (.pick (.tmp 11) (.cst (.v (.bool true))) (.tmp 26)))⟩
 .done))))))))))))))))))))))
 (.cond (.tmp 27)
 (.seq (.tree (.seq ⟨some 2, none, (.ofA (.mv (.cst (.v (.bool false)))))⟩
 .done))
 .ret)
 .skip))
 (.seq (.seq (.tree (.seq ⟨some 28, none, (.ofA (.faddr 4 (.tmp 1)))⟩
 (.seq ⟨some 29, none, (.ofA (.load none (.tmp 28)))⟩
 (.seq ⟨some 30, none, (.ofA (.len (.tmp 29)))⟩
 (.seq ⟨some 31, none, (.ofA (.mv (.cst (.v (.int .i64 0)))))⟩
 .done)))))
 (.block 0 (.loop (.seq (.tree (.seq ⟨some 32, none, (.ofA (.bin .lss (.tmp 31) (.tmp 30)))⟩
 .done))
 (.seq (.cond (.tmp 32)
 .skip
 (.exit 0))
 (.seq (.block 1 (.seq (.tree (.seq ⟨some 33, none, (.ofA (.mv (.tmp 31)))⟩
 (.seq ⟨some 34, none, (.ofA (.isl 3 (.tmp 29) (.tmp 31)))⟩
 (.seq ⟨some 35, none, (.ofA (.load (some 3) (.tmp 34)))⟩
 (.seq ⟨some 4, none, (.alloc [(.v (.bool false)), (.v (.int .i64 0)), (.v (.slice none 0 0))])⟩
 (.seq ⟨some 3, none, (.ofA (.mv (.tmp 33)))⟩
 (.seq ⟨none, none, (.store 3 (.tmp 4) (.tmp 35))⟩
 .done)))))))
 (.seq (.seq (.tree (.seq ⟨some 36, none, (.ofA (.faddr 0 (.tmp 4)))⟩
 (.seq ⟨some 37, none, (.ofA (.load none (.tmp 36)))⟩
 (.seq ⟨some 38, none, (.ofA (.mv (.tmp 37)))⟩
 (.seq ⟨some 39, some (38, true), (.ofA (.mv (.tmp 3)))⟩
 (.seq ⟨some 40, some (38, true), (.ofA (.bin .lss (.tmp 39) (.cst (.v (.int .i64 2)))))⟩
 (.seq ⟨some 41, none, (.ofA (.pick (.tmp 38) (.tmp 40) (.cst (.v (.bool false)))))⟩
 (.seq ⟨some 42, none, (.ofA (.mv (.tmp 41)))⟩
 (.seq ⟨some 43, some (42, false), (.ofA (.faddr 1 (.tmp 4)))⟩
 (.seq ⟨some 44, some (42, false), (.ofA (.load none (.tmp 43)))⟩
 (.seq ⟨some 45, some (42, false), (.ofA (.bin .lss (.tmp 44) (.cst (.v (.int .i64 0)))))⟩
 (.seq ⟨some 46, none, (.ofA (.pick (.tmp 42) (.cst (.v (.bool true))) (.tmp 45)))⟩
 (.seq ⟨some 47, none, (.ofA (.mv (.tmp 46)))⟩
 (.seq ⟨some 48, some (47, false), (.ofA (.faddr 1 (.tmp 4)))⟩
 (.seq ⟨some 49, some (47, false), (.ofA (.load none (.tmp 48)))⟩
 (.seq ⟨some 50, some (47, false), (.ofA (.bin .geq (.tmp 49) (.cst (.v (.int .i64 2147483648)))))⟩
 (.seq ⟨some 51, none, (.ofA (.pick (.tmp 47) (.cst (.v (.bool true))) (.tmp 50)))⟩
 (.seq ⟨some 52, none, (.ofA (.mv (.tmp 51)))⟩
 (.seq ⟨some 53, some (52, false), (.ofA (.faddr 2 (.tmp 4)))⟩
 (.seq ⟨some 54, some (52, false), (.ofA (.load none (.tmp 53)))⟩
 (.seq ⟨some 55, some (52, false), (.ofA (.len (.tmp 54)))⟩
 (.seq ⟨some 56, some (52, false), (.ofA (.faddr 0 (.tmp 1)))⟩
 (.seq ⟨some 57, some (52, false), (.ofA (.faddr 3 (.tmp 56)))⟩
 (.seq ⟨some 58, some (52, false), (.ofA (.load none (.tmp 57)))⟩
 (.seq ⟨some 59, some (52, false), (.ofA (.bin .gtr (.tmp 55) (.tmp 58)))⟩
 (.seq ⟨some 60, none, (.ofA (.pick (.tmp 52) (.cst (.v (.bool true))) (.tmp 59)))⟩
 .done))))))))))))))))))))))))))
 (.cond (.tmp 60)
 (.seq (.tree (.seq ⟨some 2, none, (.ofA (.mv (.cst (.v (.bool false)))))⟩
 .done))
 .ret)
 .skip))
 (.seq (.tree (.seq ⟨some 61, none, (.ofA (.faddr 2 (.tmp 4)))⟩
 (.seq ⟨some 62, none, (.ofA (.load none (.tmp 61)))⟩
 (.seq ⟨some 63, none, (.ofA (.len (.tmp 62)))⟩
 (.seq ⟨some 64, none, (.ofA (.mv (.cst (.v (.int .i64 0)))))⟩
 .done)))))
 (.block 2 (.loop (.seq (.tree (.seq ⟨some 65, none, (.ofA (.bin .lss (.tmp 64) (.tmp 63)))⟩
 .done))
 (.seq (.cond (.tmp 65)
 .skip
 (.exit 2))
 (.seq (.block 3 (.seq (.tree (.seq ⟨some 66, none, (.ofA (.isl 3 (.tmp 62) (.tmp 64)))⟩
 (.seq ⟨some 67, none, (.ofA (.load (some 3) (.tmp 66)))⟩
 (.seq ⟨some 6, none, (.alloc [(.v (.bool false)), (.v (.string ⟨#[]⟩)), (.v (.string ⟨#[]⟩))])⟩
 (.seq ⟨none, none, (.store 3 (.tmp 6) (.tmp 67))⟩
 .done)))))
 (.seq (.tree (.seq ⟨some 68, none, (.ofA (.faddr 0 (.tmp 6)))⟩
 (.seq ⟨some 69, none, (.ofA (.load none (.tmp 68)))⟩
 (.seq ⟨some 70, none, (.ofA (.mv (.tmp 69)))⟩
 (.seq ⟨some 71, some (70, true), (.ofA (.faddr 1 (.tmp 6)))⟩
 (.seq ⟨some 72, some (70, true), (.ofA (.load none (.tmp 71)))⟩
 (.seq ⟨some 73, some (70, true), (.ofA (.bin .neq (.tmp 72) (.cst (.v (.string ⟨#[]⟩)))))⟩
 (.seq ⟨some 74, some (70, true), (.ofA (.mv (.tmp 73)))⟩
 (.seq ⟨some 75, some (74, false), (.ofA (.faddr 2 (.tmp 6)))⟩
 (.seq ⟨some 76, some (74, false), (.ofA (.load none (.tmp 75)))⟩
 (.seq ⟨some 77, some (74, false), (.ofA (.bin .neq (.tmp 76) (.cst (.v (.string ⟨#[]⟩)))))⟩
 (.seq ⟨some 78, some (70, true), (.ofA (.pick (.tmp 74) (.cst (.v (.bool true))) (.tmp 77)))⟩
 (.seq ⟨some 79, none, (.ofA (.pick (.tmp 70) (.tmp 78) (.cst (.v (.bool false)))))⟩
 (.seq ⟨some 80, none, (.ofA (.mv (.tmp 79)))⟩
 (.seq ⟨some 81, some (80, false), (.ofA (.faddr 1 (.tmp 6)))⟩
 (.seq ⟨some 82, some (80, false), (.ofA (.load none (.tmp 81)))⟩
 (.seq ⟨some 83, some (80, false), (.ofA (.lens (.tmp 82)))⟩
 (.seq ⟨some 84, some (80, false), (.ofA (.bin .gtr (.tmp 83) (.cst (.v (.int .i64 32)))))⟩
 (.seq ⟨some 85, none, (.ofA (.pick (.tmp 80) (.cst (.v (.bool true))) (.tmp 84)))⟩
 (.seq ⟨some 86, none, (.ofA (.mv (.tmp 85)))⟩
 (.seq ⟨some 87, some (86, false), (.ofA (.faddr 2 (.tmp 6)))⟩
 (.seq ⟨some 88, some (86, false), (.ofA (.load none (.tmp 87)))⟩
 (.seq ⟨some 89, some (86, false), (.ofA (.lens (.tmp 88)))⟩
 (.seq ⟨some 90, some (86, false), (.ofA (.bin .gtr (.tmp 89) (.cst (.v (.int .i64 160)))))⟩
 (.seq ⟨some 91, none, (.ofA (.pick (.tmp 86) (.cst (.v (.bool true))) (.tmp 90)))⟩
 .done)))))))))))))))))))))))))
 (.cond (.tmp 91)
 (.seq (.tree (.seq ⟨some 2, none, (.ofA (.mv (.cst (.v (.bool false)))))⟩
 .done))
 .ret)
 .skip))))
 (.tree (.seq ⟨some 92, none, (.ofA (.bin .add (.tmp 64) (.cst (.v (.int .i64 1)))))⟩
 (.seq ⟨some 64, none, (.ofA (.mv (.tmp 92)))⟩
 .done))))))))))))
 (.tree (.seq ⟨some 93, none, (.ofA (.bin .add (.tmp 31) (.cst (.v (.int .i64 1)))))⟩
 (.seq ⟨some 31, none, (.ofA (.mv (.tmp 93)))⟩
 .done)))))))))
 (.seq (.tree (.seq ⟨some 2, none, (.ofA (.mv (.cst (.v (.bool true)))))⟩
 .done))
 .ret))))
def r14 : List XR := [.tmp 2]
theorem fn14 : FnX Try.prog 14 [] 94 x14 r14 := ⟨_, Try.func14, by kernel_rfl, by kernel_rfl, by kernel_rfl, by kernel_rfl⟩
-- almshouse/almshouselaw43.bit (1 parameters)
def x59 : XC := (.seq (.tree (.seq ⟨some 2, none, (.ofA (.mv (.cst (.v (.int .i64 0)))))⟩
 .done))
 (.seq (.seq (.tree (.seq ⟨some 3, none, (.ofA (.mv (.tmp 0)))⟩
 .done))
 (.cond (.tmp 3)
 (.seq (.tree (.seq ⟨some 2, none, (.ofA (.mv (.cst (.v (.int .i64 1)))))⟩
 .done))
 .ret)
 .skip))
 (.seq (.tree (.seq ⟨some 2, none, (.ofA (.mv (.cst (.v (.int .i64 0)))))⟩
 .done))
 .ret)))
def r59 : List XR := [.tmp 2]
theorem fn59 : FnX Try.prog 59 [] 4 x59 r59 := ⟨_, Try.func59, by kernel_rfl, by kernel_rfl, by kernel_rfl, by kernel_rfl⟩
-- almshouse/almshouseref03.Make (2 parameters)
def x57 : XC := (.seq (.tree (.seq ⟨some 4, none, (.ofA (.mv (.cst (.v (.slice none 0 0)))))⟩
 (.seq ⟨some 5, none, (.ofA (.mv (.cst (.v (.int .i64 0)))))⟩
 .done)))
 (.seq (.seq (.tree (.seq ⟨some 7, none, (.ofA (.mv (.tmp 0)))⟩
 (.seq ⟨some 8, none, (.ofA (.bin .lss (.tmp 7) (.cst (.v (.int .i64 0)))))⟩
 (.seq ⟨some 9, none, (.ofA (.mv (.tmp 8)))⟩
 (.seq ⟨some 10, some (9, false), (.ofA (.mv (.tmp 0)))⟩
 (.seq ⟨some 11, some (9, false), (.ofA (.bin .gtr (.tmp 10) (.cst (.v (.int .i64 255)))))⟩
 (.seq ⟨some 12, none, (.ofA (.pick (.tmp 9) (.cst (.v (.bool true))) (.tmp 11)))⟩
 .done)))))))
 (.cond (.tmp 12)
 (.seq (.tree (.seq ⟨some 4, none, (.ofA (.mv (.cst (.v (.slice none 0 0)))))⟩
 (.seq ⟨some 5, none, (.ofA (.mv (.cst (.v (.int .i64 1)))))⟩
 .done)))
 .ret)
 .skip))
 (.seq (.seq (.tree (.seq ⟨some 13, none, (.ofA (.mv (.tmp 1)))⟩
 (.seq ⟨some 14, none, (.ofA (.len (.tmp 13)))⟩
 (.seq ⟨some 15, none, (.ofA (.bin .gtr (.tmp 14) (.cst (.v (.int .i64 65535)))))⟩
 .done))))
 (.cond (.tmp 15)
 (.seq (.tree (.seq ⟨some 4, none, (.ofA (.mv (.cst (.v (.slice none 0 0)))))⟩
 (.seq ⟨some 5, none, (.ofA (.mv (.cst (.v (.int .i64 3)))))⟩
 .done)))
 .ret)
 .skip))
 (.seq (.tree (.seq ⟨some 16, none, (.ofA (.mv (.tmp 0)))⟩
 (.seq ⟨some 17, none, (.call (.cst (.fn 58 [])) [(.cst (.v (.slice none 0 0))), (.tmp 16), (.cst (.v (.int .i64 1)))])⟩
 (.seq ⟨some 18, none, (.ofA (.mv (.tmp 1)))⟩
 (.seq ⟨some 19, none, (.ofA (.len (.tmp 18)))⟩
 (.seq ⟨some 20, none, (.call (.cst (.fn 58 [])) [(.tmp 17), (.tmp 19), (.cst (.v (.int .i64 2)))])⟩
 (.seq ⟨some 21, none, (.ofA (.mv (.tmp 1)))⟩
 (.seq ⟨some 22, none, (.app 1 1 (.tmp 20) (.tmp 21))⟩
 (.seq ⟨some 6, none, (.ofA (.mv (.tmp 22)))⟩
 .done)))))))))
 (.seq (.tree (.seq ⟨some 23, none, (.ofA (.mv (.tmp 6)))⟩
 (.seq ⟨some 24, none, (.ofA (.mv (.tmp 6)))⟩
 (.seq ⟨some 25, none, (.call (.cst (.fn 102 [])) [(.tmp 24)])⟩
 (.seq ⟨some 26, none, (.ofA (.conv .i64 (.tmp 25)))⟩
 (.seq ⟨some 27, none, (.call (.cst (.fn 58 [])) [(.tmp 23), (.tmp 26), (.cst (.v (.int .i64 4)))])⟩
 (.seq ⟨some 4, none, (.ofA (.mv (.tmp 27)))⟩
 (.seq ⟨some 5, none, (.ofA (.mv (.cst (.v (.int .i64 0)))))⟩
 .done))))))))
 .ret)))))
def r57 : List XR := [.tmp 4, .tmp 5]
theorem fn57 : FnX Try.prog 57 [] 28 x57 r57 := ⟨_, Try.func57, by kernel_rfl, by kernel_rfl, by kernel_rfl, by kernel_rfl⟩
def c21 [Inp] : Trans := fun args m k => ∃ g : Ge, args = [.agg g.sv] ∧ ∀ e : Int, (e = 0 ↔ chkG g = true) → k (.v (.int .i64 e)) m
theorem c21_ok [I : Inp] : Contract Try.prog 21 true c21 := by
  refine .read fn21 (G := fun _ => []) (fun J => @g0 J _) _ fun args m k h => ?_
  obtain ⟨g, rfl, hk⟩ := h
  refine ⟨by simp, fun J hJ us hus => ?_⟩
  obtain ⟨u, t1, rfl, hk1, rfl⟩ := hus
  obtain rfl := hk1.2.1 g.vs rfl
  rw [List.map_cons, List.map_nil, show SV.of (.agg g.vs.toArray) = _ from ge_of g]
  by_cases hg : inG g
  · obtain ⟨⟨m1, m2⟩, m3, m4⟩ := in_mul hg
    have w1 : IntKind.i64.wrap (g.ch * g.di) = g.ch * g.di := Sz.w_64 (by omega) (by omega)
    have w2 : IntKind.i64.wrap (g.ch * g.di * g.bl) = g.ch * g.di * g.bl := Sz.w_64 (by omega) (by omega)
    have hc := @chk_in g
    unfold inG at hg
    simp (maxSteps := 2000000) -implicitDefEqProofs only [↓x21, ↓r21, w1, w2, gt_iff_lt, s_alt, s_alt20, s_alt2t, s_alt2f, ↓s_loopi, ↓v_pq, ↓PRE, POST, CORE, Nat.reduceDiv, Nat.reduceMod, Int.reduceLT, Int.reduceLE, Int.reduceToNat, Int.reduceAdd, ↓reduceIte, Nat.reduceEqDiff, Nat.reduceAdd, Nat.reduceMul, Nat.reduceSub, Nat.reduceLeDiff, Nat.reduceLT, reduceCtorEq, if_true, eq_self, forall_const, implies_true]
    generalize g.ch * g.di * g.bl = M at w2 m3 m4 hc ⊢
    simp only [decide_eq_true_eq, decide_eq_false_iff_not, Decidable.not_not]
    repeat' split
    all_goals first | (refine hk _ ?_; rw [hc]; unfold inG; omega) | (exfalso; omega)
  · have hc : chkG g = false := by
      cases h : chkG g with
      | false => rfl
      | true => exact (hg (chk_in.1 h).1).elim
    unfold inG at hg
    simp (maxSteps := 2000000) -implicitDefEqProofs only [↓x21, ↓r21, gt_iff_lt, s_alt, s_alt20, s_alt2t, s_alt2f, ↓s_loopi, ↓v_pq, ↓PRE, POST, CORE, Nat.reduceDiv, Nat.reduceMod, Int.reduceLT, Int.reduceLE, Int.reduceToNat, Int.reduceAdd, ↓reduceIte, Nat.reduceEqDiff, Nat.reduceAdd, Nat.reduceMul, Nat.reduceSub, Nat.reduceLeDiff, Nat.reduceLT, reduceCtorEq, if_true, eq_self, forall_const, implies_true]
    simp only [decide_eq_true_eq, decide_eq_false_iff_not, Decidable.not_not]
    repeat' split
    all_goals first | (refine hk _ ?_; rw [hc]; simp; done) | (exfalso; omega)
def c14 [Inp] : Trans := fun args m k => ∃ s g bs, args = [s] ∧ picS m s g bs ∧ bs.length ≤ 140737488355328 ∧ (∀ b ∈ bs, b.pages.length ≤ 140737488355328) ∧ k (.v (.bool (mayF g bs))) m
theorem g21 [Inp] : GOk Try.prog [⟨21, true, c21⟩] := GOk.cons c21_ok (g0 _)
theorem c14_ok [I : Inp] : Contract Try.prog 14 true c14 := by
  refine .readG fn14 (G := fun J => [⟨21, true, @c21 J⟩]) (fun J => @g21 J) _ fun args m k h => ?_
  obtain ⟨s, g, bs, rfl, h1, hn, hpn, hk⟩ := h
  refine ⟨by simp, fun J hJ K hK us hus => ?_⟩
  obtain ⟨u, t1, rfl, hk1, rfl⟩ := hus
  obtain ⟨p, c, xs, e1, rfl, hin, hx0⟩ := pic_kn hK h1 hk1
  rw [List.map_cons, e1, List.map_nil]
  rw [List.length_map] at hn
  have hitem : ∀ (i : Nat) (x : Bi), xs[i]? = some x → inpL (plusA p (i * 3)) 3 = some x.cs := fun i x hx => inp_item Bi.len hin rfl hx
  unfold Ge.sv
  simp (maxSteps := 2000000) -implicitDefEqProofs only [↓x14, ↓r14, ↓c21, s_alt, s_alt20, s_alt2t, s_alt2f, ↓s_loopi, ↓v_pq, ↓PRE, POST, CORE, Nat.reduceDiv, Nat.reduceMod, Int.reduceLT, Int.reduceLE, Int.reduceToNat, Int.reduceAdd, ↓reduceIte, Nat.reduceEqDiff, Nat.reduceAdd, Nat.reduceMul, Nat.reduceSub, Nat.reduceLeDiff, Nat.reduceLT, reduceCtorEq, if_true, eq_self, forall_const, implies_true]
  refine ⟨g, rfl, fun e he => ?_⟩
  unfold mayF at hk
  by_cases h0 : e = 0
  case neg =>
    have hg : chkG g = false := by
      cases h : chkG g with
      | false => rfl
      | true => exact (h0 (he.2 h)).elim
    have hb : (e != 0) = true := by simpa using h0
    rw [hg, Bool.false_and] at hk
    simp (maxSteps := 2000000) -implicitDefEqProofs only [hb, s_alt, s_alt20, s_alt2t, s_alt2f, ↓s_loopi, ↓v_pq, ↓PRE, POST, CORE, Nat.reduceDiv, Nat.reduceMod, Int.reduceLT, Int.reduceLE, Int.reduceToNat, Int.reduceAdd, ↓reduceIte, Nat.reduceEqDiff, Nat.reduceAdd, Nat.reduceMul, Nat.reduceSub, Nat.reduceLeDiff, Nat.reduceLT, reduceCtorEq, if_true, eq_self, forall_const, implies_true]
    exact hk
  subst h0
  have hg := he.1 rfl
  obtain ⟨⟨m1, m2⟩, m3, m4⟩ := in_mul (chk_in.1 hg).1
  have w1 : IntKind.i64.wrap (g.ch * g.di) = g.ch * g.di := Sz.w_64 (by omega) (by omega)
  have w2 : IntKind.i64.wrap (g.ch * g.di * g.bl) = g.ch * g.di * g.bl := Sz.w_64 (by omega) (by omega)
  have hnB : nB g = g.ch * g.di * g.bl := if_pos hg
  rw [hg, Bool.true_and, List.length_map] at hk
  rw [hnB] at hk
  cases hl : ((xs.length : Int) == g.ch * g.di * g.bl) with
  | false =>
    have hl2 : ((xs.length : Int) != g.ch * g.di * g.bl) = true := by simp only [bne, hl, Bool.not_false]
    rw [hl, Bool.false_and] at hk
    simp (maxSteps := 2000000) -implicitDefEqProofs only [bne_self_eq_false, Bool.false_eq_true, w1, w2, hl2, s_alt, s_alt20, s_alt2t, s_alt2f, ↓s_loopi, ↓v_pq, ↓PRE, POST, CORE, Nat.reduceDiv, Nat.reduceMod, Int.reduceLT, Int.reduceLE, Int.reduceToNat, Int.reduceAdd, ↓reduceIte, Nat.reduceEqDiff, Nat.reduceAdd, Nat.reduceMul, Nat.reduceSub, Nat.reduceLeDiff, Nat.reduceLT, reduceCtorEq, if_true, eq_self, forall_const, implies_true]
    exact hk
  | true =>
  have hl2 : ((xs.length : Int) != g.ch * g.di * g.bl) = false := by simp only [bne, hl, Bool.not_true]
  rw [hl, Bool.true_and] at hk
  simp (maxSteps := 2000000) -implicitDefEqProofs only [bne_self_eq_false, Bool.false_eq_true, w1, w2, hl2, s_alt, s_alt20, s_alt2t, s_alt2f, ↓s_loopi, ↓v_pq, ↓PRE, POST, CORE, Nat.reduceDiv, Nat.reduceMod, Int.reduceLT, Int.reduceLE, Int.reduceToNat, Int.reduceAdd, ↓reduceIte, Nat.reduceEqDiff, Nat.reduceAdd, Nat.reduceMul, Nat.reduceSub, Nat.reduceLeDiff, Nat.reduceLT, reduceCtorEq, if_true, eq_self, forall_const, implies_true]
  refine TXi_of (TX_count (@g21 J) xs.length (fun x => [(1, .ptr 0 0), (29, .v (.slice p xs.length c)), (30, .v (.int .i64 (xs.length : Int))), (31, .v (.int .i64 (x : Int)))]) (fun x => [⟨true, [.v (.int .i64 g.ch), .v (.int .i64 g.di), .v (.int .i64 g.bl), .v (.int .i64 g.pa), .v (.slice p xs.length c)]⟩]) (fun x => ∀ i, i < x → ∀ b, (xs.map Bi.b)[i]? = some b → mayBk g i b = true) (fun i hi => by omega) (by refine ⟨[0], by simp [NdL, NdA, oO_cells, oO_own, iL_nil], ?_, ?_, keep0 hJ⟩ <;> simp only [FitM, FitE, ObLe, LeL, Le, List.cons_append, List.nil_append] <;> (try (simp (maxSteps := 2000000) -implicitDefEqProofs only [s_alt, s_alt20, s_alt2t, s_alt2f, ↓s_loopi, ↓v_pq, ↓PRE, POST, CORE, Nat.reduceDiv, Nat.reduceMod, Int.reduceLT, Int.reduceLE, Int.reduceToNat, Int.reduceAdd, ↓reduceIte, Nat.reduceEqDiff, Nat.reduceAdd, Nat.reduceMul, Nat.reduceSub, Nat.reduceLeDiff, Nat.reduceLT, reduceCtorEq, if_true, eq_self, forall_const, implies_true])) <;> (try simp only [Sz.Le, Sz.LeL, List.getElem?_cons_zero, List.getElem?_cons_succ]) <;> (try simp)) ?_ ?_)
  · intro x hx hI
    obtain ⟨a, ha⟩ : ∃ a, xs[x]? = some a := ⟨_, List.getElem?_eq_getElem hx⟩
    have hb0 : (xs.map Bi.b)[x]? = some a.b := by rw [List.getElem?_map, ha]; rfl
    have hpa := hpn a.b (List.mem_map.2 ⟨a, List.mem_of_getElem? ha, rfl⟩)
    have f : inpL (plusA p (x * 3)) 3 = some [.bool a.b.bad, .int .i64 a.b.er, .slice a.a a.b.pages.length a.c] := hitem x a ha
    have hina : inpL a.a (a.b.pages.length * 3) = some (rowV Pg.cs a.b.pages) := hx0 a (List.mem_of_getElem? ha)
    have hitem2 : ∀ (i : Nat) (y : Pg), a.b.pages[i]? = some y → inpL (plusA a.a (i * 3)) 3 = some y.cs := fun i y hy => inp_item Pg.len hina rfl hy
    have hp : p.isSome = true := inpL_isSome hin (by omega)
    have i0 : (0 : Int) ≤ (x : Int) := by omega
    have i1 : (x : Int) < (xs.length : Int) := by omega
    have w3 : IntKind.i64.wrap ((x : Int) + 1) = (x : Int) + 1 := Sz.w_64 (by omega) (by omega)
    have bad : mayBk g x a.b = false → k (.v (.bool false)) m := fun hb => by
      have : mayBs g 0 (xs.map Bi.b) = false := by
        cases h : mayBs g 0 (xs.map Bi.b) with
        | false => rfl
        | true =>
          have := mayBs_iff.1 h x a.b hb0
          rw [Nat.zero_add, hb] at this
          cases this
      rw [this] at hk
      exact hk
    have next : mayBk g x a.b = true → ∀ i, i < x + 1 → ∀ b, (xs.map Bi.b)[i]? = some b → mayBk g i b = true := fun hb i hi b hb' => by
      by_cases h : i = x
      · subst h
        rw [hb0] at hb'
        injection hb' with hb'
        subst hb'
        exact hb
      · exact hI i (by omega) b hb'
    unfold mayBk at bad next
    have inner : ∀ (q : Bool), (q = true ↔ (a.b.bad = true ∧ (x : Int) < 2) ∨ a.b.er < 0 ∨ 2147483648 ≤ a.b.er ∨ g.pa < (a.b.pages.length : Int)) → (q = true → k (.v (.bool false)) m) := fun q hq hqt => by
      refine bad ?_
      rcases hq.1 hqt with ⟨h, h2⟩ | h | h | h
      · have : x < 2 := by omega
        simp [h, this]
      · have e2 : decide (0 ≤ a.b.er) = false := by simpa using h
        rw [e2]; simp
      · have e3 : decide (a.b.er ≤ 2147483647) = false := by simp only [decide_eq_false_iff_not]; omega
        rw [e3]; simp
      · have e4 : decide ((a.b.pages.length : Int) ≤ g.pa) = false := by simp only [decide_eq_false_iff_not]; omega
        rw [e4]; simp
    by_cases hall : (a.b.bad = true ∧ (x : Int) < 2) ∨ a.b.er < 0 ∨ 2147483648 ≤ a.b.er ∨ g.pa < (a.b.pages.length : Int)
    · have hkf := inner true (by simpa using hall) rfl
      cases hbd : a.b.bad with
      | false =>
        have hall' : a.b.er < 0 ∨ 2147483648 ≤ a.b.er ∨ g.pa < (a.b.pages.length : Int) := by
          rcases hall with h | h
          · rw [hbd] at h; exact absurd h.1 (by simp)
          · exact h
        by_cases c2 : a.b.er < 0
        · simp (maxSteps := 2000000) -implicitDefEqProofs only [f, hp, i0, i1, w3, hbd, c2, s_alt, s_alt20, s_alt2t, s_alt2f, ↓s_loopi, ↓v_pq, ↓PRE, POST, CORE, Nat.reduceDiv, Nat.reduceMod, Int.reduceLT, Int.reduceLE, Int.reduceToNat, Int.reduceAdd, ↓reduceIte, Nat.reduceEqDiff, Nat.reduceAdd, Nat.reduceMul, Nat.reduceSub, Nat.reduceLeDiff, Nat.reduceLT, reduceCtorEq, if_true, eq_self, forall_const, implies_true]; exact hkf
        · by_cases c3 : 2147483648 ≤ a.b.er
          · simp (maxSteps := 2000000) -implicitDefEqProofs only [f, hp, i0, i1, w3, hbd, c2, c3, ge_iff_le, s_alt, s_alt20, s_alt2t, s_alt2f, ↓s_loopi, ↓v_pq, ↓PRE, POST, CORE, Nat.reduceDiv, Nat.reduceMod, Int.reduceLT, Int.reduceLE, Int.reduceToNat, Int.reduceAdd, ↓reduceIte, Nat.reduceEqDiff, Nat.reduceAdd, Nat.reduceMul, Nat.reduceSub, Nat.reduceLeDiff, Nat.reduceLT, reduceCtorEq, if_true, eq_self, forall_const, implies_true]; exact hkf
          · have c4 : g.pa < (a.b.pages.length : Int) := by omega
            simp (maxSteps := 2000000) -implicitDefEqProofs only [f, hp, i0, i1, w3, hbd, c2, c3, c4, ge_iff_le, gt_iff_lt, s_alt, s_alt20, s_alt2t, s_alt2f, ↓s_loopi, ↓v_pq, ↓PRE, POST, CORE, Nat.reduceDiv, Nat.reduceMod, Int.reduceLT, Int.reduceLE, Int.reduceToNat, Int.reduceAdd, ↓reduceIte, Nat.reduceEqDiff, Nat.reduceAdd, Nat.reduceMul, Nat.reduceSub, Nat.reduceLeDiff, Nat.reduceLT, reduceCtorEq, if_true, eq_self, forall_const, implies_true]; exact hkf
      | true =>
        by_cases c1 : (x : Int) < 2
        · simp (maxSteps := 2000000) -implicitDefEqProofs only [f, hp, i0, i1, w3, hbd, c1, s_alt, s_alt20, s_alt2t, s_alt2f, ↓s_loopi, ↓v_pq, ↓PRE, POST, CORE, Nat.reduceDiv, Nat.reduceMod, Int.reduceLT, Int.reduceLE, Int.reduceToNat, Int.reduceAdd, ↓reduceIte, Nat.reduceEqDiff, Nat.reduceAdd, Nat.reduceMul, Nat.reduceSub, Nat.reduceLeDiff, Nat.reduceLT, reduceCtorEq, if_true, eq_self, forall_const, implies_true]; exact hkf
        · have hall' : a.b.er < 0 ∨ 2147483648 ≤ a.b.er ∨ g.pa < (a.b.pages.length : Int) := by
            rcases hall with h | h
            · exact absurd h.2 c1
            · exact h
          by_cases c2 : a.b.er < 0
          · simp (maxSteps := 2000000) -implicitDefEqProofs only [f, hp, i0, i1, w3, hbd, c1, c2, s_alt, s_alt20, s_alt2t, s_alt2f, ↓s_loopi, ↓v_pq, ↓PRE, POST, CORE, Nat.reduceDiv, Nat.reduceMod, Int.reduceLT, Int.reduceLE, Int.reduceToNat, Int.reduceAdd, ↓reduceIte, Nat.reduceEqDiff, Nat.reduceAdd, Nat.reduceMul, Nat.reduceSub, Nat.reduceLeDiff, Nat.reduceLT, reduceCtorEq, if_true, eq_self, forall_const, implies_true]; exact hkf
          · by_cases c3 : 2147483648 ≤ a.b.er
            · simp (maxSteps := 2000000) -implicitDefEqProofs only [f, hp, i0, i1, w3, hbd, c1, c2, c3, ge_iff_le, s_alt, s_alt20, s_alt2t, s_alt2f, ↓s_loopi, ↓v_pq, ↓PRE, POST, CORE, Nat.reduceDiv, Nat.reduceMod, Int.reduceLT, Int.reduceLE, Int.reduceToNat, Int.reduceAdd, ↓reduceIte, Nat.reduceEqDiff, Nat.reduceAdd, Nat.reduceMul, Nat.reduceSub, Nat.reduceLeDiff, Nat.reduceLT, reduceCtorEq, if_true, eq_self, forall_const, implies_true]; exact hkf
            · have c4 : g.pa < (a.b.pages.length : Int) := by omega
              simp (maxSteps := 2000000) -implicitDefEqProofs only [f, hp, i0, i1, w3, hbd, c1, c2, c3, c4, ge_iff_le, gt_iff_lt, s_alt, s_alt20, s_alt2t, s_alt2f, ↓s_loopi, ↓v_pq, ↓PRE, POST, CORE, Nat.reduceDiv, Nat.reduceMod, Int.reduceLT, Int.reduceLE, Int.reduceToNat, Int.reduceAdd, ↓reduceIte, Nat.reduceEqDiff, Nat.reduceAdd, Nat.reduceMul, Nat.reduceSub, Nat.reduceLeDiff, Nat.reduceLT, reduceCtorEq, if_true, eq_self, forall_const, implies_true]; exact hkf
    · have c2 : ¬ a.b.er < 0 := fun h => hall (.inr (.inl h))
      have c3 : ¬ 2147483648 ≤ a.b.er := fun h => hall (.inr (.inr (.inl h)))
      have c4 : ¬ g.pa < (a.b.pages.length : Int) := fun h => hall (.inr (.inr (.inr h)))
      have c1 : a.b.bad = true → ¬ (x : Int) < 2 := fun h h2 => hall (.inl ⟨h, h2⟩)
      have e1 : (!(a.b.bad && decide (x < 2))) = true := by
        cases hbd : a.b.bad with
        | false => rfl
        | true =>
          have : ¬ x < 2 := fun h => c1 hbd (by omega)
          simp [this]
      have e2 : decide (0 ≤ a.b.er) = true := by simp only [decide_eq_true_eq]; omega
      have e3 : decide (a.b.er ≤ 2147483647) = true := by simp only [decide_eq_true_eq]; omega
      have e4 : decide ((a.b.pages.length : Int) ≤ g.pa) = true := by simp only [decide_eq_true_eq]; omega
      rw [e1, e2, e3, e4, Bool.true_and, Bool.true_and, Bool.true_and, Bool.true_and] at bad next
      have loop : ∀ (e : Env) (m' : Mem), True := fun _ _ => trivial
      cases hbd : a.b.bad
      all_goals
        first
        | (have c1' := c1 hbd; simp (maxSteps := 2000000) -implicitDefEqProofs only [f, hp, i0, i1, w3, hbd, c1', c2, c3, c4, ge_iff_le, gt_iff_lt, s_alt, s_alt20, s_alt2t, s_alt2f, ↓s_loopi, ↓v_pq, ↓PRE, POST, CORE, Nat.reduceDiv, Nat.reduceMod, Int.reduceLT, Int.reduceLE, Int.reduceToNat, Int.reduceAdd, ↓reduceIte, Nat.reduceEqDiff, Nat.reduceAdd, Nat.reduceMul, Nat.reduceSub, Nat.reduceLeDiff, Nat.reduceLT, reduceCtorEq, if_true, eq_self, forall_const, implies_true])
        | simp (maxSteps := 2000000) -implicitDefEqProofs only [f, hp, i0, i1, w3, hbd, c2, c3, c4, ge_iff_le, gt_iff_lt, s_alt, s_alt20, s_alt2t, s_alt2f, ↓s_loopi, ↓v_pq, ↓PRE, POST, CORE, Nat.reduceDiv, Nat.reduceMod, Int.reduceLT, Int.reduceLE, Int.reduceToNat, Int.reduceAdd, ↓reduceIte, Nat.reduceEqDiff, Nat.reduceAdd, Nat.reduceMul, Nat.reduceSub, Nat.reduceLeDiff, Nat.reduceLT, reduceCtorEq, if_true, eq_self, forall_const, implies_true]
        refine TXi_of (TX_count (@g21 J) a.b.pages.length (fun y => [(1, .ptr 0 0), (29, .v (.slice p xs.length c)), (30, .v (.int .i64 (xs.length : Int))), (31, .v (.int .i64 (x : Int))), (62, .v (.slice a.a a.b.pages.length a.c)), (63, .v (.int .i64 (a.b.pages.length : Int))), (64, .v (.int .i64 (y : Int)))]) (fun y => [⟨true, [.v (.int .i64 g.ch), .v (.int .i64 g.di), .v (.int .i64 g.bl), .v (.int .i64 g.pa), .v (.slice p xs.length c)]⟩]) (fun y => (a.b.pages.take y).all mayPg = true) rfl (by refine ⟨[0], by simp [NdL, NdA, oO_cells, oO_own, iL_nil], ?_, ?_, keep0 hJ⟩ <;> simp only [FitM, FitE, ObLe, LeL, Le, List.cons_append, List.nil_append] <;> (try (simp (maxSteps := 2000000) -implicitDefEqProofs only [s_alt, s_alt20, s_alt2t, s_alt2f, ↓s_loopi, ↓v_pq, ↓PRE, POST, CORE, Nat.reduceDiv, Nat.reduceMod, Int.reduceLT, Int.reduceLE, Int.reduceToNat, Int.reduceAdd, ↓reduceIte, Nat.reduceEqDiff, Nat.reduceAdd, Nat.reduceMul, Nat.reduceSub, Nat.reduceLeDiff, Nat.reduceLT, reduceCtorEq, if_true, eq_self, forall_const, implies_true])) <;> (try simp only [Sz.Le, Sz.LeL, List.getElem?_cons_zero, List.getElem?_cons_succ]) <;> (try simp)) ?_ ?_)
        · intro y hy hI2
          obtain ⟨q, hq⟩ : ∃ q, a.b.pages[y]? = some q := ⟨_, List.getElem?_eq_getElem hy⟩
          have f2 : inpL (plusA a.a (y * 3)) 3 = some [.bool q.torn, .string q.beside, .string q.data] := hitem2 y q hq
          have hp2 : a.a.isSome = true := inpL_isSome hina (by omega)
          have j0 : (0 : Int) ≤ (y : Int) := by omega
          have j1 : (y : Int) < (a.b.pages.length : Int) := by omega
          have w4 : IntKind.i64.wrap ((y : Int) + 1) = (y : Int) + 1 := Sz.w_64 (by omega) (by omega)
          have pbad : mayPg q = false → k (.v (.bool false)) m := fun h => bad (all_bad hq h)
          have pnext : mayPg q = true → (a.b.pages.take (y + 1)).all mayPg = true := fun h => by rw [all_snoc _ hq, hI2, h]; rfl
          unfold mayPg at pbad pnext
          cases ht : q.torn with
          | true =>
            rw [if_pos ht] at pbad pnext
            cases hb1 : (q.beside.size == 0) with
            | false =>
              rw [hb1, Bool.false_and] at pbad
              simp (maxSteps := 2000000) -implicitDefEqProofs only [f2, hp2, j0, j1, w4, ht, toList_nil, hb1, Bool.not_false, s_alt, s_alt20, s_alt2t, s_alt2f, ↓s_loopi, ↓v_pq, ↓PRE, POST, CORE, Nat.reduceDiv, Nat.reduceMod, Int.reduceLT, Int.reduceLE, Int.reduceToNat, Int.reduceAdd, ↓reduceIte, Nat.reduceEqDiff, Nat.reduceAdd, Nat.reduceMul, Nat.reduceSub, Nat.reduceLeDiff, Nat.reduceLT, reduceCtorEq, if_true, eq_self, forall_const, implies_true]
              exact pbad rfl
            | true =>
              rw [hb1, Bool.true_and] at pbad pnext
              cases hb2 : (q.data.size == 0) with
              | false =>
                simp (maxSteps := 2000000) -implicitDefEqProofs only [f2, hp2, j0, j1, w4, ht, toList_nil, hb1, hb2, Bool.not_false, Bool.not_true, s_alt, s_alt20, s_alt2t, s_alt2f, ↓s_loopi, ↓v_pq, ↓PRE, POST, CORE, Nat.reduceDiv, Nat.reduceMod, Int.reduceLT, Int.reduceLE, Int.reduceToNat, Int.reduceAdd, ↓reduceIte, Nat.reduceEqDiff, Nat.reduceAdd, Nat.reduceMul, Nat.reduceSub, Nat.reduceLeDiff, Nat.reduceLT, reduceCtorEq, if_true, eq_self, forall_const, implies_true]
                exact pbad hb2
              | true =>
                have s1 : q.beside.size = 0 := by simpa using hb1
                have s2 : q.data.size = 0 := by simpa using hb2
                have s1' : ¬ (32 : Int) < (q.beside.size : Int) := by omega
                have s2' : ¬ (160 : Int) < (q.data.size : Int) := by omega
                simp (maxSteps := 2000000) -implicitDefEqProofs only [f2, hp2, j0, j1, w4, ht, toList_nil, hb1, hb2, Bool.not_false, Bool.not_true, s1', s2', gt_iff_lt, Bool.false_eq_true, s_alt, s_alt20, s_alt2t, s_alt2f, ↓s_loopi, ↓v_pq, ↓PRE, POST, CORE, Nat.reduceDiv, Nat.reduceMod, Int.reduceLT, Int.reduceLE, Int.reduceToNat, Int.reduceAdd, ↓reduceIte, Nat.reduceEqDiff, Nat.reduceAdd, Nat.reduceMul, Nat.reduceSub, Nat.reduceLeDiff, Nat.reduceLT, reduceCtorEq, if_true, eq_self, forall_const, implies_true]
                exact ⟨pnext hb2, (by refine ⟨[0], by simp [NdL, NdA, oO_cells, oO_own, iL_nil], ?_, ?_, keep0 hJ⟩ <;> simp only [FitM, FitE, ObLe, LeL, Le, List.cons_append, List.nil_append] <;> (try (simp (maxSteps := 2000000) -implicitDefEqProofs only [s_alt, s_alt20, s_alt2t, s_alt2f, ↓s_loopi, ↓v_pq, ↓PRE, POST, CORE, Nat.reduceDiv, Nat.reduceMod, Int.reduceLT, Int.reduceLE, Int.reduceToNat, Int.reduceAdd, ↓reduceIte, Nat.reduceEqDiff, Nat.reduceAdd, Nat.reduceMul, Nat.reduceSub, Nat.reduceLeDiff, Nat.reduceLT, reduceCtorEq, if_true, eq_self, forall_const, implies_true])) <;> (try simp only [Sz.Le, Sz.LeL, List.getElem?_cons_zero, List.getElem?_cons_succ]) <;> (try simp))⟩
          | false =>
            rw [if_neg (by rw [ht]; simp)] at pbad pnext
            by_cases s1 : (32 : Int) < (q.beside.size : Int)
            · simp (maxSteps := 2000000) -implicitDefEqProofs only [f2, hp2, j0, j1, w4, ht, s1, gt_iff_lt, Bool.false_eq_true, s_alt, s_alt20, s_alt2t, s_alt2f, ↓s_loopi, ↓v_pq, ↓PRE, POST, CORE, Nat.reduceDiv, Nat.reduceMod, Int.reduceLT, Int.reduceLE, Int.reduceToNat, Int.reduceAdd, ↓reduceIte, Nat.reduceEqDiff, Nat.reduceAdd, Nat.reduceMul, Nat.reduceSub, Nat.reduceLeDiff, Nat.reduceLT, reduceCtorEq, if_true, eq_self, forall_const, implies_true]
              exact pbad (by simp; omega)
            · by_cases s2 : (160 : Int) < (q.data.size : Int)
              · simp (maxSteps := 2000000) -implicitDefEqProofs only [f2, hp2, j0, j1, w4, ht, s1, s2, gt_iff_lt, Bool.false_eq_true, s_alt, s_alt20, s_alt2t, s_alt2f, ↓s_loopi, ↓v_pq, ↓PRE, POST, CORE, Nat.reduceDiv, Nat.reduceMod, Int.reduceLT, Int.reduceLE, Int.reduceToNat, Int.reduceAdd, ↓reduceIte, Nat.reduceEqDiff, Nat.reduceAdd, Nat.reduceMul, Nat.reduceSub, Nat.reduceLeDiff, Nat.reduceLT, reduceCtorEq, if_true, eq_self, forall_const, implies_true]
                exact pbad (by simp; omega)
              · simp (maxSteps := 2000000) -implicitDefEqProofs only [f2, hp2, j0, j1, w4, ht, s1, s2, gt_iff_lt, Bool.false_eq_true, s_alt, s_alt20, s_alt2t, s_alt2f, ↓s_loopi, ↓v_pq, ↓PRE, POST, CORE, Nat.reduceDiv, Nat.reduceMod, Int.reduceLT, Int.reduceLE, Int.reduceToNat, Int.reduceAdd, ↓reduceIte, Nat.reduceEqDiff, Nat.reduceAdd, Nat.reduceMul, Nat.reduceSub, Nat.reduceLeDiff, Nat.reduceLT, reduceCtorEq, if_true, eq_self, forall_const, implies_true]
                exact ⟨pnext (by simp; omega), (by refine ⟨[0], by simp [NdL, NdA, oO_cells, oO_own, iL_nil], ?_, ?_, keep0 hJ⟩ <;> simp only [FitM, FitE, ObLe, LeL, Le, List.cons_append, List.nil_append] <;> (try (simp (maxSteps := 2000000) -implicitDefEqProofs only [s_alt, s_alt20, s_alt2t, s_alt2f, ↓s_loopi, ↓v_pq, ↓PRE, POST, CORE, Nat.reduceDiv, Nat.reduceMod, Int.reduceLT, Int.reduceLE, Int.reduceToNat, Int.reduceAdd, ↓reduceIte, Nat.reduceEqDiff, Nat.reduceAdd, Nat.reduceMul, Nat.reduceSub, Nat.reduceLeDiff, Nat.reduceLT, reduceCtorEq, if_true, eq_self, forall_const, implies_true])) <;> (try simp only [Sz.Le, Sz.LeL, List.getElem?_cons_zero, List.getElem?_cons_succ]) <;> (try simp))⟩
        · intro hI2
          have j1 : ¬ (a.b.pages.length : Int) < (a.b.pages.length : Int) := by omega
          rw [List.take_length] at hI2
          simp (maxSteps := 2000000) -implicitDefEqProofs only [j1, w3, s_alt, s_alt20, s_alt2t, s_alt2f, ↓s_loopi, ↓v_pq, ↓PRE, POST, CORE, Nat.reduceDiv, Nat.reduceMod, Int.reduceLT, Int.reduceLE, Int.reduceToNat, Int.reduceAdd, ↓reduceIte, Nat.reduceEqDiff, Nat.reduceAdd, Nat.reduceMul, Nat.reduceSub, Nat.reduceLeDiff, Nat.reduceLT, reduceCtorEq, if_true, eq_self, forall_const, implies_true]
          exact ⟨next hI2, (by refine ⟨[0], by simp [NdL, NdA, oO_cells, oO_own, iL_nil], ?_, ?_, keep0 hJ⟩ <;> simp only [FitM, FitE, ObLe, LeL, Le, List.cons_append, List.nil_append] <;> (try (simp (maxSteps := 2000000) -implicitDefEqProofs only [s_alt, s_alt20, s_alt2t, s_alt2f, ↓s_loopi, ↓v_pq, ↓PRE, POST, CORE, Nat.reduceDiv, Nat.reduceMod, Int.reduceLT, Int.reduceLE, Int.reduceToNat, Int.reduceAdd, ↓reduceIte, Nat.reduceEqDiff, Nat.reduceAdd, Nat.reduceMul, Nat.reduceSub, Nat.reduceLeDiff, Nat.reduceLT, reduceCtorEq, if_true, eq_self, forall_const, implies_true])) <;> (try simp only [Sz.Le, Sz.LeL, List.getElem?_cons_zero, List.getElem?_cons_succ]) <;> (try simp))⟩
  · intro hI
    have i1 : ¬ (xs.length : Int) < (xs.length : Int) := by omega
    have : mayBs g 0 (xs.map Bi.b) = true := mayBs_iff.2 fun i b hb => by
      rw [Nat.zero_add]
      exact hI i (by have := (List.getElem?_eq_some_iff.1 hb).1; rwa [List.length_map] at this) b hb
    rw [this] at hk
    simp (maxSteps := 2000000) -implicitDefEqProofs only [i1, s_alt, s_alt20, s_alt2t, s_alt2f, ↓s_loopi, ↓v_pq, ↓PRE, POST, CORE, Nat.reduceDiv, Nat.reduceMod, Int.reduceLT, Int.reduceLE, Int.reduceToNat, Int.reduceAdd, ↓reduceIte, Nat.reduceEqDiff, Nat.reduceAdd, Nat.reduceMul, Nat.reduceSub, Nat.reduceLeDiff, Nat.reduceLT, reduceCtorEq, if_true, eq_self, forall_const, implies_true]
    exact hk
def c59 [Inp] : Trans := fun args m k => ∃ f : Bool, args = [.v (.bool f)] ∧ k (.v (.int .i64 (if f = true then 1 else 0))) m
theorem c59_ok [I : Inp] : Contract Try.prog 59 true c59 := by
  refine .read fn59 (G := fun _ => []) (fun J => @g0 J _) _ fun args m k h => ?_
  obtain ⟨f, rfl, hk⟩ := h
  refine ⟨by simp, fun J hJ us hus => ?_⟩
  obtain ⟨u, t1, rfl, hk1, rfl⟩ := hus
  obtain rfl := hk1.1 _ rfl
  cases f <;> simp (maxSteps := 2000000) -implicitDefEqProofs only [↓x59, ↓r59, Bool.false_eq_true, s_alt, s_alt20, s_alt2t, s_alt2f, ↓s_loopi, ↓v_pq, ↓PRE, POST, CORE, Nat.reduceDiv, Nat.reduceMod, Int.reduceLT, Int.reduceLE, Int.reduceToNat, Int.reduceAdd, ↓reduceIte, Nat.reduceEqDiff, Nat.reduceAdd, Nat.reduceMul, Nat.reduceSub, Nat.reduceLeDiff, Nat.reduceLT, reduceCtorEq, if_true, eq_self, forall_const, implies_true] <;> exact hk
end Go.Proofs.Ytibefgdjijmncaa
end
