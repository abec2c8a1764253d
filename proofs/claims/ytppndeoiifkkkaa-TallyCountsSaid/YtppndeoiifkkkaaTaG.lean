/- Layer 46 (tally): TallyCounts; by symbolic walks. -/
import Derived.Test.YtppndeoiifkkkaaTaF
namespace Go.Proofs.Ytppndeoiifkkkaa
open Go.RowKit Sz
set_option linter.unusedVariables false
set_option linter.unusedSimpArgs false
set_option maxHeartbeats 4000000
set_option maxRecDepth 20000
-- almshouse/almshouselaw46.TallyCounts (2 parameters)
def x10 : XC := (.seq (.tree (.seq ⟨some 4, none, (.ofA (.mv (.cst (.v (.bool false)))))⟩
  .done))
 (.seq (.seq (.tree (.seq ⟨some 16, none, (.call (.cst (.fn 52 [])) [])⟩
  (.seq ⟨some 17, none, (.ofA (.un .not (.tmp 16)))⟩
  .done)))
 (.cond (.tmp 17)
 (.seq (.tree (.seq ⟨some 4, none, (.ofA (.mv (.cst (.v (.bool false)))))⟩
  .done))
 .ret)
 .skip))
 (.seq (.seq (.tree (.seq ⟨some 18, none, (.ofA (.mv (.tmp 0)))⟩
  (.seq ⟨some 19, none, (.call (.cst (.fn 53 [])) [(.tmp 18)])⟩
  (.seq ⟨some 20, none, (.ofA (.un .not (.tmp 19)))⟩
  (.seq ⟨some 21, none, (.ofA (.mv (.tmp 20)))⟩
  (.seq ⟨some 22, some (21, false), (.ofA (.mv (.tmp 1)))⟩
  (.seq ⟨some 23, some (21, false), (.ofA (.len (.tmp 22)))⟩
  (.seq ⟨some 24, some (21, false), (.ofA (.bin .gtr (.tmp 23) (.cst (.v (.int .i64 200)))))⟩
  (.seq ⟨some 25, none, (.ofA (.pick (.tmp 21) (.cst (.v (.bool true))) (.tmp 24)))⟩
  .done)))))))))
 (.cond (.tmp 25)
 (.seq (.tree (.seq ⟨some 4, none, (.ofA (.mv (.cst (.v (.bool true)))))⟩
  .done))
 .ret)
 .skip))
 (.seq (.tree (.seq ⟨some 26, none, (.ofA (.mv (.tmp 0)))⟩
  (.seq ⟨some 27, none, (.call (.cst (.fn 54 [])) [(.tmp 26)])⟩
  (.seq ⟨some 5, none, (.alloc [(.v (.int .i64 0)), (.v (.int .i64 0)), (.v (.int .i64 0)), (.v (.int .i64 0)), (.v (.int .i64 0)), (.v (.int .i64 0)), (.v (.int .i64 0)), (.v (.int .i64 0)), (.v (.int .i64 0)), (.v (.int .i64 0)), (.v (.int .i64 0)), (.v (.int .i64 0)), (.v (.int .i64 0)), (.v (.int .i64 0)), (.v (.int .i64 0)), (.v (.int .i64 0)), (.v (.int .i64 0)), (.v (.int .i64 0)), (.v (.int .i64 0)), (.v (.int .i64 0))])⟩
  (.seq ⟨none, none, (.store 20 (.tmp 5) (.tmp 27))⟩
  .done)))))
 (.seq (.seq (.tree (.seq ⟨some 28, none, (.ofA (.faddr 0 (.tmp 5)))⟩
  (.seq ⟨some 29, none, (.ofA (.load (some 16) (.tmp 28)))⟩
  (.seq ⟨some 30, none, (.ofA (.mv (.cst (.v (.int .i64 0)))))⟩
  .done))))
 (.block 0 (.loop (.seq (.tree (.seq ⟨some 31, none, (.ofA (.bin .lss (.tmp 30) (.cst (.v (.int .i64 16)))))⟩
  .done))
 (.seq (.cond (.tmp 31)
 .skip
 (.exit 0))
 (.seq (.block 1 (.seq (.tree (.seq ⟨some 32, none, (.ofA (.mv (.tmp 30)))⟩
  (.seq ⟨some 33, none, (.ofA (.idx 16 1 false (.tmp 29) (.tmp 30)))⟩
  (.seq ⟨some 6, none, (.ofA (.mv (.tmp 32)))⟩
  (.seq ⟨some 7, none, (.ofA (.mv (.tmp 33)))⟩
  .done)))))
 (.seq (.tree (.seq ⟨some 34, none, (.ofA (.mv (.tmp 7)))⟩
  (.seq ⟨some 35, none, (.ofA (.mv (.tmp 0)))⟩
  (.seq ⟨some 36, none, (.ofA (.mv (.tmp 6)))⟩
  (.seq ⟨some 37, none, (.call (.cst (.fn 55 [])) [(.tmp 35), (.tmp 36)])⟩
  (.seq ⟨some 38, none, (.ofA (.bin .neq (.tmp 34) (.tmp 37)))⟩
  .done))))))
 (.cond (.tmp 38)
 (.seq (.tree (.seq ⟨some 4, none, (.ofA (.mv (.cst (.v (.bool false)))))⟩
  .done))
 .ret)
 .skip))))
 (.tree (.seq ⟨some 39, none, (.ofA (.bin .add (.tmp 30) (.cst (.v (.int .i64 1)))))⟩
  (.seq ⟨some 30, none, (.ofA (.mv (.tmp 39)))⟩
  .done)))))))))
 (.seq (.tree (.seq ⟨some 40, none, (.ofA (.mv (.tmp 1)))⟩
  (.seq ⟨some 41, none, (.call (.cst (.fn 56 [])) [(.tmp 40)])⟩
  (.seq ⟨some 8, none, (.alloc [(.v (.int .i64 0)), (.v (.int .i64 0)), (.v (.int .i64 0)), (.v (.int .i64 0)), (.v (.int .i64 0)), (.v (.int .i64 0)), (.v (.int .i64 0)), (.v (.int .i64 0)), (.v (.int .i64 0))])⟩
  (.seq ⟨none, none, (.store 9 (.tmp 8) (.tmp 41))⟩
  .done)))))
 (.seq (.seq (.tree (.seq ⟨some 42, none, (.ofA (.load (some 9) (.tmp 8)))⟩
  (.seq ⟨some 43, none, (.ofA (.mv (.cst (.v (.int .i64 0)))))⟩
  .done)))
 (.block 2 (.loop (.seq (.tree (.seq ⟨some 44, none, (.ofA (.bin .lss (.tmp 43) (.cst (.v (.int .i64 9)))))⟩
  .done))
 (.seq (.cond (.tmp 44)
 .skip
 (.exit 2))
 (.seq (.block 3 (.seq (.tree (.seq ⟨some 45, none, (.ofA (.mv (.tmp 43)))⟩
  (.seq ⟨some 46, none, (.ofA (.idx 9 1 false (.tmp 42) (.tmp 43)))⟩
  (.seq ⟨some 9, none, (.ofA (.mv (.tmp 45)))⟩
  (.seq ⟨some 10, none, (.ofA (.mv (.tmp 46)))⟩
  .done)))))
 (.seq (.tree (.seq ⟨some 11, none, (.ofA (.mv (.cst (.v (.int .i64 0)))))⟩
  .done))
 (.seq (.seq (.tree (.seq ⟨some 47, none, (.ofA (.mv (.tmp 1)))⟩
  (.seq ⟨some 48, none, (.ofA (.len (.tmp 47)))⟩
  (.seq ⟨some 49, none, (.ofA (.mv (.cst (.v (.int .i64 0)))))⟩
  .done))))
 (.block 4 (.loop (.seq (.tree (.seq ⟨some 50, none, (.ofA (.bin .lss (.tmp 49) (.tmp 48)))⟩
  .done))
 (.seq (.cond (.tmp 50)
 .skip
 (.exit 4))
 (.seq (.block 5 (.seq (.tree (.seq ⟨some 51, none, (.ofA (.isl 8 (.tmp 47) (.tmp 49)))⟩
  (.seq ⟨some 52, none, (.ofA (.load (some 8) (.tmp 51)))⟩
  (.seq ⟨some 13, none, (.alloc [(.v (.int .i64 0)), (.v (.int .i64 0)), (.v (.int .i64 0)), (.v (.int .i64 0)), (.v (.int .i64 0)), (.v (.int .i64 0)), (.v (.int .i64 0)), (.v (.string ⟨#[]⟩))])⟩
  (.seq ⟨none, none, (.store 8 (.tmp 13) (.tmp 52))⟩
  .done)))))
 (.seq (.tree (.seq ⟨some 53, none, (.ofA (.faddr 0 (.tmp 13)))⟩
  (.seq ⟨some 54, none, (.ofA (.load none (.tmp 53)))⟩
  (.seq ⟨some 55, none, (.ofA (.mv (.tmp 9)))⟩
  (.seq ⟨some 56, none, (.ofA (.bin .eql (.tmp 54) (.tmp 55)))⟩
  (.seq ⟨some 57, none, (.ofA (.mv (.tmp 56)))⟩
  (.seq ⟨some 58, some (57, true), (.ofA (.mv (.tmp 9)))⟩
  (.seq ⟨some 59, some (57, true), (.ofA (.bin .gtr (.tmp 58) (.cst (.v (.int .i64 0)))))⟩
  (.seq ⟨some 60, none, (.ofA (.pick (.tmp 57) (.tmp 59) (.cst (.v (.bool false)))))⟩
  (.seq ⟨some 61, none, (.ofA (.mv (.tmp 60)))⟩
  (.seq ⟨some 62, some (61, false), (.ofA (.mv (.tmp 9)))⟩
  (.seq ⟨some 63, some (61, false), (.ofA (.bin .eql (.tmp 62) (.cst (.v (.int .i64 0)))))⟩
  (.seq ⟨some 64, some (61, false), (.ofA (.mv (.tmp 63)))⟩
  (.seq ⟨some 65, some (64, true), (.ofA (.faddr 0 (.tmp 13)))⟩
  (.seq ⟨some 66, some (64, true), (.ofA (.load none (.tmp 65)))⟩
  (.seq ⟨some 67, some (64, true), (.ofA (.bin .lss (.tmp 66) (.cst (.v (.int .i64 1)))))⟩
  (.seq ⟨some 68, some (64, true), (.ofA (.mv (.tmp 67)))⟩
  (.seq ⟨some 69, some (68, false), (.ofA (.faddr 0 (.tmp 13)))⟩
  (.seq ⟨some 70, some (68, false), (.ofA (.load none (.tmp 69)))⟩
  (.seq ⟨some 71, some (68, false), (.ofA (.bin .gtr (.tmp 70) (.cst (.v (.int .i64 8)))))⟩
  (.seq ⟨some 72, some (64, true), (.ofA (.pick (.tmp 68) (.cst (.v (.bool true))) (.tmp 71)))⟩
  (.seq ⟨some 73, some (61, false), (.ofA (.pick (.tmp 64) (.tmp 72) (.cst (.v (.bool false)))))⟩
  (.seq ⟨some 74, none, (.ofA (.pick (.tmp 61) (.cst (.v (.bool true))) (.tmp 73)))⟩
  .done)))))))))))))))))))))))
 (.cond (.tmp 74)
 (.tree (.seq ⟨some 75, none, (.ofA (.mv (.tmp 11)))⟩
  (.seq ⟨some 76, none, (.ofA (.bin .add (.tmp 75) (.cst (.v (.int .i64 1)))))⟩
  (.seq ⟨some 11, none, (.ofA (.mv (.tmp 76)))⟩
  .done))))
 .skip))))
 (.tree (.seq ⟨some 77, none, (.ofA (.bin .add (.tmp 49) (.cst (.v (.int .i64 1)))))⟩
  (.seq ⟨some 49, none, (.ofA (.mv (.tmp 77)))⟩
  .done)))))))))
 (.seq (.tree (.seq ⟨some 78, none, (.ofA (.mv (.tmp 10)))⟩
  (.seq ⟨some 79, none, (.ofA (.mv (.tmp 11)))⟩
  (.seq ⟨some 80, none, (.ofA (.bin .neq (.tmp 78) (.tmp 79)))⟩
  .done))))
 (.cond (.tmp 80)
 (.seq (.tree (.seq ⟨some 4, none, (.ofA (.mv (.cst (.v (.bool false)))))⟩
  .done))
 .ret)
 .skip))))))
 (.tree (.seq ⟨some 81, none, (.ofA (.bin .add (.tmp 43) (.cst (.v (.int .i64 1)))))⟩
  (.seq ⟨some 43, none, (.ofA (.mv (.tmp 81)))⟩
  .done)))))))))
 (.seq (.tree (.seq ⟨some 14, none, (.ofA (.mv (.cst (.v (.int .i64 (-1))))))⟩
  (.seq ⟨some 15, none, (.ofA (.mv (.cst (.v (.int .i64 (-1))))))⟩
  .done)))
 (.seq (.seq (.tree (.seq ⟨some 82, none, (.ofA (.mv (.tmp 0)))⟩
  (.seq ⟨some 83, none, (.ofA (.len (.tmp 82)))⟩
  (.seq ⟨some 84, none, (.ofA (.bin .gtr (.tmp 83) (.cst (.v (.int .i64 0)))))⟩
  .done))))
 (.cond (.tmp 84)
 (.tree (.take ⟨some 85, none, (.ofA (.mv (.tmp 0)))⟩
  (.take ⟨some 86, none, (.ofA (.isl 3 (.tmp 85) (.cst (.v (.int .i64 0)))))⟩
  (.take ⟨some 87, none, (.ofA (.faddr 0 (.tmp 86)))⟩
  (.take ⟨some 88, none, (.ofA (.load none (.tmp 87)))⟩
  (.take ⟨some 89, none, (.ofA (.mv (.tmp 0)))⟩
  (.take ⟨some 90, none, (.ofA (.mv (.tmp 0)))⟩
  (.take ⟨some 91, none, (.ofA (.len (.tmp 90)))⟩
  (.take ⟨some 92, none, (.ofA (.bin .sub (.tmp 91) (.cst (.v (.int .i64 1)))))⟩
  (.take ⟨some 93, none, (.ofA (.isl 3 (.tmp 89) (.tmp 92)))⟩
  (.take ⟨some 94, none, (.ofA (.faddr 0 (.tmp 93)))⟩
  (.take ⟨some 95, none, (.ofA (.load none (.tmp 94)))⟩
  (.take ⟨some 14, none, (.ofA (.mv (.tmp 88)))⟩
  (.take ⟨some 15, none, (.ofA (.mv (.tmp 95)))⟩
  .done))))))))))))))
 .skip))
 (.seq (.tree (.take ⟨some 96, none, (.ofA (.faddr 16 (.tmp 5)))⟩
  (.take ⟨some 97, none, (.ofA (.load none (.tmp 96)))⟩
  (.take ⟨some 98, none, (.ofA (.mv (.tmp 0)))⟩
  (.act true [(⟨some 99, none, (.call (.cst (.fn 57 [])) [(.tmp 98)])⟩,
 (.take ⟨some 100, none, (.ofA (.bin .eql (.tmp 97) (.tmp 99)))⟩
  (.take ⟨some 101, none, (.ofA (.mv (.tmp 100)))⟩
  (.take ⟨some 102, some (101, true), (.ofA (.faddr 19 (.tmp 5)))⟩
  (.take ⟨some 103, some (101, true), (.ofA (.load none (.tmp 102)))⟩
  (.take ⟨some 104, some (101, true), (.ofA (.mv (.tmp 0)))⟩
  (.act true [(⟨some 105, some (101, true), (.call (.cst (.fn 58 [])) [(.tmp 104)])⟩,
 (.take ⟨some 106, some (101, true), (.ofA (.bin .eql (.tmp 103) (.tmp 105)))⟩
  (.take ⟨some 107, none, (.ofA (.pick (.tmp 101) (.tmp 106) (.cst (.v (.bool false)))))⟩
  (.take ⟨some 108, none, (.ofA (.mv (.tmp 107)))⟩
  (.take ⟨some 109, some (108, true), (.ofA (.faddr 17 (.tmp 5)))⟩
  (.take ⟨some 110, some (108, true), (.ofA (.load none (.tmp 109)))⟩
  (.take ⟨some 111, some (108, true), (.ofA (.mv (.tmp 14)))⟩
  (.take ⟨some 112, some (108, true), (.ofA (.bin .eql (.tmp 110) (.tmp 111)))⟩
  (.take ⟨some 113, none, (.ofA (.pick (.tmp 108) (.tmp 112) (.cst (.v (.bool false)))))⟩
  (.take ⟨some 114, none, (.ofA (.mv (.tmp 113)))⟩
  (.take ⟨some 115, some (114, true), (.ofA (.faddr 18 (.tmp 5)))⟩
  (.take ⟨some 116, some (114, true), (.ofA (.load none (.tmp 115)))⟩
  (.take ⟨some 117, some (114, true), (.ofA (.mv (.tmp 15)))⟩
  (.take ⟨some 118, some (114, true), (.ofA (.bin .eql (.tmp 116) (.tmp 117)))⟩
  (.take ⟨some 119, none, (.ofA (.pick (.tmp 114) (.tmp 118) (.cst (.v (.bool false)))))⟩
  (.take ⟨some 4, none, (.ofA (.mv (.tmp 119)))⟩
  .done))))))))))))))))])))))))])))))
 .ret))))))))))
def r10 : List XR := [.tmp 4]
theorem fn10 : FnX Try.prog 10 [] 120 x10 r10 := ⟨_, Try.func10, by kernel_rfl, by kernel_rfl, by kernel_rfl, by kernel_rfl⟩

/-! ### The plain law -/
theorem one_st (d : Dn) (i : Nat) (hi : i < 16) : (oneF d).getD i 0 = if d.st = (i : Int) then 1 else 0 := by
  unfold oneF
  split
  · rename_i h
    rw [getD_set (by rw [zF_len]; omega), zF_get d hi]
    by_cases h1 : d.st.toNat = i
    · rw [if_pos h1, if_pos (by omega)]
    · rw [if_neg h1, if_neg (by omega)]
  · rename_i h
    rw [zF_get d hi, if_neg (by omega)]
theorem of_snoc {ds : List Dn} {n : Nat} {d : Dn} (hd : ds[n]? = some d) : ofF (ds.take (n + 1)) = addF (ofF (ds.take n)) (oneF d) := foldl_snoc _ _ hd
theorem of_st (ds : List Dn) (i : Nat) (hi : i < 16) : ∀ n, n ≤ ds.length → (ofF (ds.take n)).getD i 0 = cntF (i : Int) (ds.take n)
  | 0, _ => by
    have : (ofF (ds.take 0)).getD i 0 = noneT.getD i 0 := by rw [List.take_zero]; rfl
    rw [this, noneT_get, if_neg (by omega), List.take_zero]; rfl
  | n + 1, hn => by
    have hd : ds[n]? = some ds[n] := List.getElem?_eq_getElem (by omega)
    have ih := of_st ds i hi n (by omega)
    have gd := good_of (ds.take n)
    have hs : cntF (i : Int) (ds.take (n + 1)) = if ds[n].st == (i : Int) then IntKind.i64.wrap (cntF i (ds.take n) + 1) else cntF i (ds.take n) := foldl_snoc _ _ hd
    have is := addF_is (xs := ofF (ds.take n)) (ys := oneF ds[n]) gd.len
    rw [of_snoc hd, is.st i (by omega), one_st _ _ hi, hs, ← ih]
    by_cases h1 : ds[n].st = (i : Int)
    · rw [if_pos h1, if_pos (by simpa using h1)]
    · rw [if_neg h1, if_neg (by simpa using h1), Int.add_zero, gd.st i (by omega)]
theorem of_bytes (ds : List Dn) : ∀ n, n ≤ ds.length → (ofF (ds.take n)).getD 16 0 = bytF (ds.take n)
  | 0, _ => by
    have : (ofF (ds.take 0)).getD 16 0 = noneT.getD 16 0 := by rw [List.take_zero]; rfl
    rw [this, noneT_get, if_neg (by omega), List.take_zero]; rfl
  | n + 1, hn => by
    have hd : ds[n]? = some ds[n] := List.getElem?_eq_getElem (by omega)
    have ih := of_bytes ds n (by omega)
    have gd := good_of (ds.take n)
    have hs : bytF (ds.take (n + 1)) = IntKind.i64.wrap (bytF (ds.take n) + (ds[n].data.size : Int)) := foldl_snoc _ _ hd
    have is := addF_is (xs := ofF (ds.take n)) (ys := oneF ds[n]) gd.len
    rw [of_snoc hd, is.st 16 (by omega), one_get _ 16 (by omega), hs, ih]
    rfl
theorem mayD_slot {d : Dn} (h : mayD d = true) : 0 ≤ d.slot := by
  unfold mayD at h
  simp only [Bool.not_eq_true', Bool.or_eq_false_iff, decide_eq_false_iff_not] at h
  omega
theorem of_ends (ds : List Dn) (hm : mayL ds = true) : ∀ n, n ≤ ds.length →
    (n = 0 → (ofF (ds.take n)).getD 17 0 = -1 ∧ (ofF (ds.take n)).getD 18 0 = -1) ∧
    (∀ (f l : Dn), ds[0]? = some f → 0 < n → ds[n - 1]? = some l → (ofF (ds.take n)).getD 17 0 = f.slot ∧ (ofF (ds.take n)).getD 18 0 = l.slot) ∧
    (ofF (ds.take n)).getD 19 0 = gapA 0 (ds.take n)
  | 0, _ => by
    have : ∀ i, (ofF (ds.take 0)).getD i 0 = noneT.getD i 0 := fun i => by rw [List.take_zero]; rfl
    refine ⟨fun _ => ⟨by rw [this, noneT_get, if_pos (by omega)], by rw [this, noneT_get, if_pos (by omega)]⟩, fun f l _ h => by omega, ?_⟩
    rw [this, noneT_get, if_neg (by omega), List.take_zero]; rfl
  | n + 1, hn => by
    have hd : ds[n]? = some ds[n] := List.getElem?_eq_getElem (by omega)
    obtain ⟨i1, i2, i3⟩ := of_ends ds hm n (by omega)
    have gd := good_of (ds.take n)
    have is := addF_is (xs := ofF (ds.take n)) (ys := oneF ds[n]) gd.len
    have hall : ∀ d ∈ ds, 0 ≤ d.slot := fun d hd => by
      unfold mayL at hm
      simp only [Bool.and_eq_true] at hm
      exact mayD_slot (List.all_eq_true.1 hm.1 d hd)
    have o17 : (oneF ds[n]).getD 17 0 = ds[n].slot := one_get _ 17 (by omega)
    have o18 : (oneF ds[n]).getD 18 0 = ds[n].slot := one_get _ 18 (by omega)
    have o19 : (oneF ds[n]).getD 19 0 = 0 := one_get _ 19 (by omega)
    have hn0 := hall ds[n] (List.getElem_mem _)
    have g0 := gd.g
    refine ⟨fun h => by omega, fun f l hf _ hl => ?_, ?_⟩
    · obtain rfl : ds[n] = l := by simpa [hd] using hl
      rw [of_snoc hd, is.f, is.l, o17, o18]
      by_cases h0 : n = 0
      · subst h0
        obtain ⟨j1, j2⟩ := i1 rfl
        rw [if_pos j1, if_pos j1]
        obtain rfl : ds[0] = f := by simpa [hd] using hf
        exact ⟨rfl, rfl⟩
      · obtain ⟨j1, j2⟩ := i2 f ds[n - 1] hf (by omega) (List.getElem?_eq_getElem (by omega))
        have hf0 := hall f (List.mem_of_getElem? hf)
        rw [j1, if_neg (by omega), if_neg (by omega), if_neg (by omega)]
        exact ⟨rfl, rfl⟩
    · rw [of_snoc hd, is.g, o17, o19, i3]
      rw [i3] at g0
      simp only [mx_is]
      by_cases h0 : n = 0
      · subst h0
        obtain ⟨j1, j2⟩ := i1 rfl
        rw [if_pos j1]
        have e1 : ds.take 1 = [ds[0]] := by rw [take_snoc hd]; simp
        have e0 : gapA 0 (ds.take 0) = 0 := by rw [List.take_zero]; rfl
        rw [e0, e1]
        show max (0 : Int) 0 = 0
        decide
      · have hp : ds[n - 1]? = some ds[n - 1] := List.getElem?_eq_getElem (by omega)
        have hf : ds[0]? = some ds[0] := List.getElem?_eq_getElem (by omega)
        obtain ⟨j1, j2⟩ := i2 ds[0] ds[n - 1] hf (by omega) hp
        have hf0 := hall ds[0] (List.getElem_mem _)
        have e1 : ds.take n = ds.take (n - 1) ++ [ds[n - 1]] := by
          have := take_snoc hp
          rwa [show n - 1 + 1 = n by omega] at this
        have e2 : ds.take (n + 1) = ds.take (n - 1) ++ [ds[n - 1], ds[n]] := by rw [take_snoc hd, e1, List.append_assoc]; rfl
        have hg : gapA 0 (ds.take (n + 1)) = (if gapA 0 (ds.take n) < IntKind.i64.wrap (ds[n].slot - ds[n - 1].slot) then IntKind.i64.wrap (ds[n].slot - ds[n - 1].slot) else gapA 0 (ds.take n)) := by rw [e2, e1]; exact gapA_snoc _ _ _ _
        rw [j1, j2, if_neg (by omega), if_neg (by omega), hg]
        generalize IntKind.i64.wrap (ds[n].slot - ds[n - 1].slot) = w
        generalize gapA 0 (ds.take n) = g at g0
        split <;> omega
def wantF (i : Int) (l : List Sp) : Int := l.foldl (fun a s => if kindF s = i then IntKind.i64.wrap (a + 1) else a) 0
theorem steps_get (l : List Sp) (i : Nat) (hi : i < 9) : ∀ n, n ≤ l.length → (stepsF (l.take n)).getD i 0 = wantF (i : Int) (l.take n)
  | 0, _ => by
    rw [List.take_zero]
    show none9.getD i 0 = 0
    rcases (by omega : i = 0 ∨ i = 1 ∨ i = 2 ∨ i = 3 ∨ i = 4 ∨ i = 5 ∨ i = 6 ∨ i = 7 ∨ i = 8) with rfl | rfl | rfl | rfl | rfl | rfl | rfl | rfl | rfl <;> rfl
  | n + 1, hn => by
    have hd : l[n]? = some l[n] := List.getElem?_eq_getElem (by omega)
    have ih := steps_get l i hi n (by omega)
    have h1 : stepsF (l.take (n + 1)) = stepF (stepsF (l.take n)) l[n] := foldl_snoc _ _ hd
    have h2 : wantF (i : Int) (l.take (n + 1)) = if kindF l[n] = (i : Int) then IntKind.i64.wrap (wantF i (l.take n) + 1) else wantF i (l.take n) := foldl_snoc _ _ hd
    have hb := kindF_bd l[n]
    have hl := stepsF_len (l.take n)
    rw [h1, h2, ← ih]
    unfold stepF
    rw [getD_set (by omega)]
    by_cases h3 : (kindF l[n]).toNat = i
    · rw [if_pos h3, if_pos (by omega), h3]
    · rw [if_neg h3, if_neg (by omega)]
/-! ### The walk -/
def G10 (J : Inp) : List CEntry := [⟨52, true, @c52 J⟩, ⟨53, true, @c53 J⟩, ⟨54, true, @c54 J⟩, ⟨55, true, @c55 J⟩, ⟨56, true, @c56 J⟩, ⟨57, true, @c57 J⟩, ⟨58, true, @c58 J⟩]
theorem g10 (J : Inp) : @GOk J Try.prog (G10 J) := @GOk.cons J _ _ _ _ _ (@c52_ok J) (@GOk.cons J _ _ _ _ _ (@c53_ok J) (@GOk.cons J _ _ _ _ _ (@c54_ok J) (@GOk.cons J _ _ _ _ _ (@c55_ok J) (@GOk.cons J _ _ _ _ _ (@c56_ok J) (@GOk.cons J _ _ _ _ _ (@c57_ok J) (@GOk.cons J _ _ _ _ _ (@c58_ok J) (@g0 J _)))))))
theorem rdS_v [Inp] {m : Mem} {p : Option Addr} {n c : Nat} {ds : List Sp} (h : inpL p (n * 8) = some (rowV Sp.cs ds)) : rdS m (.v (.slice p n c)) = some ds := by
  unfold rdS
  simp only [slOf, h, Option.map_some, Option.bind_some, decS_row]
def c10 [Inp] : Trans := fun args m k => match args with
  | [s, s2] => optK (rdD m s) fun ds => optK (rdS m s2) fun ss => (ds.length ≤ 9223372036854775807 ∧ ss.length ≤ 9223372036854775807) ∧ k (.v (.bool true)) m
  | _ => False
theorem c10_ok [Inp] : Contract Try.prog 10 true c10 := by
  refine .read fn10 (G := G10) g10 _ fun args m k h => ?_
  unfold c10 at h
  split at h
  · rename_i s s2
    obtain ⟨ds, hds, h⟩ := optK_inv h
    obtain ⟨ss, hss, ⟨hb, hb2⟩, hk⟩ := optK_inv h
    refine ⟨by simp, fun J hJ us hus => ?_⟩
    obtain ⟨u, t, rfl, hkn, u2, t2, rfl, hkn2, rfl⟩ := hus
    obtain ⟨p, c, rfl, hin, _⟩ := rdD_knows hds hkn
    obtain ⟨p2, c2, rfl, hin2, _⟩ := rdS_knows hss hkn2
    have r1 : ∀ m : Mem, rdD m (.v (.slice p ds.length c)) = some ds := fun m => rdD_v hin
    have r2 : ∀ m : Mem, rdS m (.v (.slice p2 ss.length c2)) = some ss := fun m => rdS_v hin2
    have hitem : ∀ (i : Nat) (x : Dn), ds[i]? = some x → inpL (plusA (plusA p (i * 3)) 0) 1 = some [.int .i64 x.slot] := fun i x hx => inpL_part (inp_item Dn.len hin rfl hx) (by omega)
    have hitem2 : ∀ (i : Nat) (x : Sp), ss[i]? = some x → inpL (plusA p2 (i * 8)) 8 = some x.cs := fun i x hx => inp_item Sp.len hin2 rfl hx
    by_cases hm : mayL ds = true
    · by_cases h200 : (200 : Int) < (ss.length : Int)
      · simp (maxSteps := 2000000) -implicitDefEqProofs only [↓x10, ↓r10, ↓G10, ↓c52, ↓c53, optK_some, hm, h200, r1, hb, ↓Sz.s_loopi, ↓Sz.v_pq, ↓Sz.PRE, Sz.POST, Sz.of_int, Sz.of_bool, Sz.of_str, Sz.of_sl, Sz.of_p, Sz.of_agg, Int.cast_ofNat_Int, Nat.mul_one, Nat.reduceDiv, Nat.reduceMod, Int.reduceLT, Int.reduceLE, Int.reduceToNat, Int.reduceAdd, decide_true, decide_false, ↓reduceIte, List.map_cons, List.map_nil, List.length_cons, List.length_nil, List.cons_append, List.nil_append, List.getElem?_cons_zero, List.getElem?_cons_succ, List.getElem?_nil, List.take_succ_cons, List.take_zero, List.drop_succ_cons, List.drop_zero, List.all_cons, List.all_nil, List.set_cons_zero, List.set_cons_succ, List.append_nil, Option.map_some, Option.map_none, cond_true, cond_false, Bool.true_eq_false, Bool.false_eq_true, Bool.not_true, Bool.not_false, Nat.reduceEqDiff, Nat.reduceAdd, Nat.reduceMul, Nat.reduceSub, Nat.reduceLeDiff, Nat.reduceLT, true_and, and_true, reduceCtorEq, Nat.zero_add, Nat.add_zero, Nat.zero_mul, Nat.le_refl, Int.toNat_natCast, Bool.and_self, Bool.true_and, Bool.and_true, if_true, eq_self, forall_const, and_self, implies_true]
        exact hk
      have l1 := ofF_len ds
      have tst := fun i hi => of_st ds i hi ds.length (Nat.le_refl _)
      have tby := of_bytes ds ds.length (Nat.le_refl _)
      obtain ⟨te, tf, tg⟩ := of_ends ds hm ds.length (Nat.le_refl _)
      rw [List.take_length] at tby tg te tf
      simp only [List.take_length] at tst
      have tk := take_all l1
      obtain ⟨T, hT⟩ : ∃ T, T = ofF ds := ⟨_, rfl⟩
      rw [← hT] at l1 tst tby te tf tg tk
      have hl16 : (T.take 16).length = 16 := by simp [l1]
      simp (maxSteps := 2000000) -implicitDefEqProofs only [↓x10, ↓r10, ↓G10, ↓c52, ↓c53, ↓c54, optK_some, Sz.iL_fold, Sz.iL_over, Sz.iL_all, Sz.iL_get, Sz.iL_len, Sz.iL_take, Sz.iL_drop, Sz.iL_one, Sz.iL_plain, Sz.iL_le, List.length_set, hm, h200, r1, hb, ← hT, l1, ↓Sz.s_loopi, ↓Sz.v_pq, ↓Sz.PRE, Sz.POST, Sz.of_int, Sz.of_bool, Sz.of_str, Sz.of_sl, Sz.of_p, Sz.of_agg, Int.cast_ofNat_Int, Nat.mul_one, Nat.reduceDiv, Nat.reduceMod, Int.reduceLT, Int.reduceLE, Int.reduceToNat, Int.reduceAdd, decide_true, decide_false, ↓reduceIte, List.map_cons, List.map_nil, List.length_cons, List.length_nil, List.cons_append, List.nil_append, List.getElem?_cons_zero, List.getElem?_cons_succ, List.getElem?_nil, List.take_succ_cons, List.take_zero, List.drop_succ_cons, List.drop_zero, List.all_cons, List.all_nil, List.set_cons_zero, List.set_cons_succ, List.append_nil, Option.map_some, Option.map_none, cond_true, cond_false, Bool.true_eq_false, Bool.false_eq_true, Bool.not_true, Bool.not_false, Nat.reduceEqDiff, Nat.reduceAdd, Nat.reduceMul, Nat.reduceSub, Nat.reduceLeDiff, Nat.reduceLT, true_and, and_true, reduceCtorEq, Nat.zero_add, Nat.add_zero, Nat.zero_mul, Nat.le_refl, Int.toNat_natCast, Bool.and_self, Bool.true_and, Bool.and_true, if_true, eq_self, forall_const, and_self, implies_true]
      refine TXi_of (TX_count (g10 _) 16 (fun x => [(0, .v (.slice p ds.length c)), (1, .v (.slice p2 ss.length c2)), (5, .ptr 0 0), (29, .agg (iL (T.take 16))), (30, .v (.int .i64 (x : Int)))]) (fun x => [⟨true, iL T⟩]) (fun x => True) trivial ?_ ?_ ?_)
      · exact ⟨[0], by simp, by simp only [FitM, ObLe, LeL, Le, List.cons_append, List.nil_append] <;> (try (simp (maxSteps := 2000000) -implicitDefEqProofs only [Sz.iL_fold, Sz.iL_over, Sz.iL_all, Sz.iL_get, Sz.iL_len, Sz.iL_take, Sz.iL_drop, Sz.iL_one, Sz.iL_plain, Sz.iL_le, List.length_set, ↓Sz.s_loopi, ↓Sz.v_pq, ↓Sz.PRE, Sz.POST, Sz.of_int, Sz.of_bool, Sz.of_str, Sz.of_sl, Sz.of_p, Sz.of_agg, Int.cast_ofNat_Int, Nat.mul_one, Nat.reduceDiv, Nat.reduceMod, Int.reduceLT, Int.reduceLE, Int.reduceToNat, Int.reduceAdd, decide_true, decide_false, ↓reduceIte, List.map_cons, List.map_nil, List.length_cons, List.length_nil, List.cons_append, List.nil_append, List.getElem?_cons_zero, List.getElem?_cons_succ, List.getElem?_nil, List.take_succ_cons, List.take_zero, List.drop_succ_cons, List.drop_zero, List.all_cons, List.all_nil, List.set_cons_zero, List.set_cons_succ, List.append_nil, Option.map_some, Option.map_none, cond_true, cond_false, Bool.true_eq_false, Bool.false_eq_true, Bool.not_true, Bool.not_false, Nat.reduceEqDiff, Nat.reduceAdd, Nat.reduceMul, Nat.reduceSub, Nat.reduceLeDiff, Nat.reduceLT, true_and, and_true, reduceCtorEq, Nat.zero_add, Nat.add_zero, Nat.zero_mul, Nat.le_refl, Int.toNat_natCast, Bool.and_self, Bool.true_and, Bool.and_true, if_true, eq_self, forall_const, and_self, implies_true])) <;> (try simp), by simp only [FitE, Le, LeL, List.cons_append, List.nil_append] <;> (try (simp (maxSteps := 2000000) -implicitDefEqProofs only [Sz.iL_fold, Sz.iL_over, Sz.iL_all, Sz.iL_get, Sz.iL_len, Sz.iL_take, Sz.iL_drop, Sz.iL_one, Sz.iL_plain, Sz.iL_le, List.length_set, ↓Sz.s_loopi, ↓Sz.v_pq, ↓Sz.PRE, Sz.POST, Sz.of_int, Sz.of_bool, Sz.of_str, Sz.of_sl, Sz.of_p, Sz.of_agg, Int.cast_ofNat_Int, Nat.mul_one, Nat.reduceDiv, Nat.reduceMod, Int.reduceLT, Int.reduceLE, Int.reduceToNat, Int.reduceAdd, decide_true, decide_false, ↓reduceIte, List.map_cons, List.map_nil, List.length_cons, List.length_nil, List.cons_append, List.nil_append, List.getElem?_cons_zero, List.getElem?_cons_succ, List.getElem?_nil, List.take_succ_cons, List.take_zero, List.drop_succ_cons, List.drop_zero, List.all_cons, List.all_nil, List.set_cons_zero, List.set_cons_succ, List.append_nil, Option.map_some, Option.map_none, cond_true, cond_false, Bool.true_eq_false, Bool.false_eq_true, Bool.not_true, Bool.not_false, Nat.reduceEqDiff, Nat.reduceAdd, Nat.reduceMul, Nat.reduceSub, Nat.reduceLeDiff, Nat.reduceLT, true_and, and_true, reduceCtorEq, Nat.zero_add, Nat.add_zero, Nat.zero_mul, Nat.le_refl, Int.toNat_natCast, Bool.and_self, Bool.true_and, Bool.and_true, if_true, eq_self, forall_const, and_self, implies_true])) <;> (try simp), keep0 hJ⟩
      · intro x hx _
        have i0 : (0 : Int) ≤ (x : Int) := by omega
        have i1 : (x : Int) < 16 := by omega
        have i5 : (T.take 16).getD x 0 = cntF (x : Int) ds := by
          rw [← tst x hx]
          simp [List.getD, List.getElem?_take, hx]
        have w1 : IntKind.i64.wrap ((x : Int) + 1) = (x : Int) + 1 := wrap_id (by omega) (by omega)
        simp (maxSteps := 2000000) -implicitDefEqProofs only [↓G10, ↓c55, optK_some, Sz.iL_fold, Sz.iL_over, Sz.iL_all, Sz.iL_get, Sz.iL_len, Sz.iL_take, Sz.iL_drop, Sz.iL_one, Sz.iL_plain, Sz.iL_le, List.length_set, r1, hb, i0, i1, i5, hl16, hx, w1, bne_self_eq_false, ↓Sz.s_loopi, ↓Sz.v_pq, ↓Sz.PRE, Sz.POST, Sz.of_int, Sz.of_bool, Sz.of_str, Sz.of_sl, Sz.of_p, Sz.of_agg, Int.cast_ofNat_Int, Nat.mul_one, Nat.reduceDiv, Nat.reduceMod, Int.reduceLT, Int.reduceLE, Int.reduceToNat, Int.reduceAdd, decide_true, decide_false, ↓reduceIte, List.map_cons, List.map_nil, List.length_cons, List.length_nil, List.cons_append, List.nil_append, List.getElem?_cons_zero, List.getElem?_cons_succ, List.getElem?_nil, List.take_succ_cons, List.take_zero, List.drop_succ_cons, List.drop_zero, List.all_cons, List.all_nil, List.set_cons_zero, List.set_cons_succ, List.append_nil, Option.map_some, Option.map_none, cond_true, cond_false, Bool.true_eq_false, Bool.false_eq_true, Bool.not_true, Bool.not_false, Nat.reduceEqDiff, Nat.reduceAdd, Nat.reduceMul, Nat.reduceSub, Nat.reduceLeDiff, Nat.reduceLT, true_and, and_true, reduceCtorEq, Nat.zero_add, Nat.add_zero, Nat.zero_mul, Nat.le_refl, Int.toNat_natCast, Bool.and_self, Bool.true_and, Bool.and_true, if_true, eq_self, forall_const, and_self, implies_true]
        exact ⟨[0], by simp, by simp only [FitM, ObLe, LeL, Le, List.cons_append, List.nil_append] <;> (try (simp (maxSteps := 2000000) -implicitDefEqProofs only [Sz.iL_fold, Sz.iL_over, Sz.iL_all, Sz.iL_get, Sz.iL_len, Sz.iL_take, Sz.iL_drop, Sz.iL_one, Sz.iL_plain, Sz.iL_le, List.length_set, ↓Sz.s_loopi, ↓Sz.v_pq, ↓Sz.PRE, Sz.POST, Sz.of_int, Sz.of_bool, Sz.of_str, Sz.of_sl, Sz.of_p, Sz.of_agg, Int.cast_ofNat_Int, Nat.mul_one, Nat.reduceDiv, Nat.reduceMod, Int.reduceLT, Int.reduceLE, Int.reduceToNat, Int.reduceAdd, decide_true, decide_false, ↓reduceIte, List.map_cons, List.map_nil, List.length_cons, List.length_nil, List.cons_append, List.nil_append, List.getElem?_cons_zero, List.getElem?_cons_succ, List.getElem?_nil, List.take_succ_cons, List.take_zero, List.drop_succ_cons, List.drop_zero, List.all_cons, List.all_nil, List.set_cons_zero, List.set_cons_succ, List.append_nil, Option.map_some, Option.map_none, cond_true, cond_false, Bool.true_eq_false, Bool.false_eq_true, Bool.not_true, Bool.not_false, Nat.reduceEqDiff, Nat.reduceAdd, Nat.reduceMul, Nat.reduceSub, Nat.reduceLeDiff, Nat.reduceLT, true_and, and_true, reduceCtorEq, Nat.zero_add, Nat.add_zero, Nat.zero_mul, Nat.le_refl, Int.toNat_natCast, Bool.and_self, Bool.true_and, Bool.and_true, if_true, eq_self, forall_const, and_self, implies_true])) <;> (try simp), by simp only [FitE, Le, LeL, List.cons_append, List.nil_append] <;> (try (simp (maxSteps := 2000000) -implicitDefEqProofs only [Sz.iL_fold, Sz.iL_over, Sz.iL_all, Sz.iL_get, Sz.iL_len, Sz.iL_take, Sz.iL_drop, Sz.iL_one, Sz.iL_plain, Sz.iL_le, List.length_set, ↓Sz.s_loopi, ↓Sz.v_pq, ↓Sz.PRE, Sz.POST, Sz.of_int, Sz.of_bool, Sz.of_str, Sz.of_sl, Sz.of_p, Sz.of_agg, Int.cast_ofNat_Int, Nat.mul_one, Nat.reduceDiv, Nat.reduceMod, Int.reduceLT, Int.reduceLE, Int.reduceToNat, Int.reduceAdd, decide_true, decide_false, ↓reduceIte, List.map_cons, List.map_nil, List.length_cons, List.length_nil, List.cons_append, List.nil_append, List.getElem?_cons_zero, List.getElem?_cons_succ, List.getElem?_nil, List.take_succ_cons, List.take_zero, List.drop_succ_cons, List.drop_zero, List.all_cons, List.all_nil, List.set_cons_zero, List.set_cons_succ, List.append_nil, Option.map_some, Option.map_none, cond_true, cond_false, Bool.true_eq_false, Bool.false_eq_true, Bool.not_true, Bool.not_false, Nat.reduceEqDiff, Nat.reduceAdd, Nat.reduceMul, Nat.reduceSub, Nat.reduceLeDiff, Nat.reduceLT, true_and, and_true, reduceCtorEq, Nat.zero_add, Nat.add_zero, Nat.zero_mul, Nat.le_refl, Int.toNat_natCast, Bool.and_self, Bool.true_and, Bool.and_true, if_true, eq_self, forall_const, and_self, implies_true])) <;> (try simp), keep0 hJ⟩
      · intro _
        have l2 := stepsF_len ss
        have sk := take_all l2
        have sst := fun i hi => steps_get ss i hi ss.length (Nat.le_refl _)
        simp only [List.take_length] at sst
        obtain ⟨S, hS⟩ : ∃ S, S = stepsF ss := ⟨_, rfl⟩
        rw [← hS] at l2 sk sst
        simp (maxSteps := 2000000) -implicitDefEqProofs only [↓G10, ↓c56, optK_some, Sz.iL_fold, Sz.iL_over, Sz.iL_all, Sz.iL_get, Sz.iL_len, Sz.iL_take, Sz.iL_drop, Sz.iL_one, Sz.iL_plain, Sz.iL_le, List.length_set, r2, hb2, ← hS, l2, sk, ↓Sz.s_loopi, ↓Sz.v_pq, ↓Sz.PRE, Sz.POST, Sz.of_int, Sz.of_bool, Sz.of_str, Sz.of_sl, Sz.of_p, Sz.of_agg, Int.cast_ofNat_Int, Nat.mul_one, Nat.reduceDiv, Nat.reduceMod, Int.reduceLT, Int.reduceLE, Int.reduceToNat, Int.reduceAdd, decide_true, decide_false, ↓reduceIte, List.map_cons, List.map_nil, List.length_cons, List.length_nil, List.cons_append, List.nil_append, List.getElem?_cons_zero, List.getElem?_cons_succ, List.getElem?_nil, List.take_succ_cons, List.take_zero, List.drop_succ_cons, List.drop_zero, List.all_cons, List.all_nil, List.set_cons_zero, List.set_cons_succ, List.append_nil, Option.map_some, Option.map_none, cond_true, cond_false, Bool.true_eq_false, Bool.false_eq_true, Bool.not_true, Bool.not_false, Nat.reduceEqDiff, Nat.reduceAdd, Nat.reduceMul, Nat.reduceSub, Nat.reduceLeDiff, Nat.reduceLT, true_and, and_true, reduceCtorEq, Nat.zero_add, Nat.add_zero, Nat.zero_mul, Nat.le_refl, Int.toNat_natCast, Bool.and_self, Bool.true_and, Bool.and_true, if_true, eq_self, forall_const, and_self, implies_true]
        refine TXi_of (TX_count (g10 _) 9 (fun x => [(0, .v (.slice p ds.length c)), (1, .v (.slice p2 ss.length c2)), (5, .ptr 0 0), (42, .agg (iL S)), (43, .v (.int .i64 (x : Int)))]) (fun x => [⟨true, iL T⟩]) (fun x => True) trivial ?_ ?_ ?_)
        · exact ⟨[0], by simp, by simp only [FitM, ObLe, LeL, Le, List.cons_append, List.nil_append] <;> (try (simp (maxSteps := 2000000) -implicitDefEqProofs only [Sz.iL_fold, Sz.iL_over, Sz.iL_all, Sz.iL_get, Sz.iL_len, Sz.iL_take, Sz.iL_drop, Sz.iL_one, Sz.iL_plain, Sz.iL_le, List.length_set, ↓Sz.s_loopi, ↓Sz.v_pq, ↓Sz.PRE, Sz.POST, Sz.of_int, Sz.of_bool, Sz.of_str, Sz.of_sl, Sz.of_p, Sz.of_agg, Int.cast_ofNat_Int, Nat.mul_one, Nat.reduceDiv, Nat.reduceMod, Int.reduceLT, Int.reduceLE, Int.reduceToNat, Int.reduceAdd, decide_true, decide_false, ↓reduceIte, List.map_cons, List.map_nil, List.length_cons, List.length_nil, List.cons_append, List.nil_append, List.getElem?_cons_zero, List.getElem?_cons_succ, List.getElem?_nil, List.take_succ_cons, List.take_zero, List.drop_succ_cons, List.drop_zero, List.all_cons, List.all_nil, List.set_cons_zero, List.set_cons_succ, List.append_nil, Option.map_some, Option.map_none, cond_true, cond_false, Bool.true_eq_false, Bool.false_eq_true, Bool.not_true, Bool.not_false, Nat.reduceEqDiff, Nat.reduceAdd, Nat.reduceMul, Nat.reduceSub, Nat.reduceLeDiff, Nat.reduceLT, true_and, and_true, reduceCtorEq, Nat.zero_add, Nat.add_zero, Nat.zero_mul, Nat.le_refl, Int.toNat_natCast, Bool.and_self, Bool.true_and, Bool.and_true, if_true, eq_self, forall_const, and_self, implies_true])) <;> (try simp), by simp only [FitE, Le, LeL, List.cons_append, List.nil_append] <;> (try (simp (maxSteps := 2000000) -implicitDefEqProofs only [Sz.iL_fold, Sz.iL_over, Sz.iL_all, Sz.iL_get, Sz.iL_len, Sz.iL_take, Sz.iL_drop, Sz.iL_one, Sz.iL_plain, Sz.iL_le, List.length_set, ↓Sz.s_loopi, ↓Sz.v_pq, ↓Sz.PRE, Sz.POST, Sz.of_int, Sz.of_bool, Sz.of_str, Sz.of_sl, Sz.of_p, Sz.of_agg, Int.cast_ofNat_Int, Nat.mul_one, Nat.reduceDiv, Nat.reduceMod, Int.reduceLT, Int.reduceLE, Int.reduceToNat, Int.reduceAdd, decide_true, decide_false, ↓reduceIte, List.map_cons, List.map_nil, List.length_cons, List.length_nil, List.cons_append, List.nil_append, List.getElem?_cons_zero, List.getElem?_cons_succ, List.getElem?_nil, List.take_succ_cons, List.take_zero, List.drop_succ_cons, List.drop_zero, List.all_cons, List.all_nil, List.set_cons_zero, List.set_cons_succ, List.append_nil, Option.map_some, Option.map_none, cond_true, cond_false, Bool.true_eq_false, Bool.false_eq_true, Bool.not_true, Bool.not_false, Nat.reduceEqDiff, Nat.reduceAdd, Nat.reduceMul, Nat.reduceSub, Nat.reduceLeDiff, Nat.reduceLT, true_and, and_true, reduceCtorEq, Nat.zero_add, Nat.add_zero, Nat.zero_mul, Nat.le_refl, Int.toNat_natCast, Bool.and_self, Bool.true_and, Bool.and_true, if_true, eq_self, forall_const, and_self, implies_true])) <;> (try simp), keep0 hJ⟩
        · intro x hx _
          have i0 : (0 : Int) ≤ (x : Int) := by omega
          have i1 : (x : Int) < 9 := by omega
          simp (maxSteps := 2000000) -implicitDefEqProofs only [Sz.iL_fold, Sz.iL_over, Sz.iL_all, Sz.iL_get, Sz.iL_len, Sz.iL_take, Sz.iL_drop, Sz.iL_one, Sz.iL_plain, Sz.iL_le, List.length_set, i0, i1, l2, hx, ↓Sz.s_loopi, ↓Sz.v_pq, ↓Sz.PRE, Sz.POST, Sz.of_int, Sz.of_bool, Sz.of_str, Sz.of_sl, Sz.of_p, Sz.of_agg, Int.cast_ofNat_Int, Nat.mul_one, Nat.reduceDiv, Nat.reduceMod, Int.reduceLT, Int.reduceLE, Int.reduceToNat, Int.reduceAdd, decide_true, decide_false, ↓reduceIte, List.map_cons, List.map_nil, List.length_cons, List.length_nil, List.cons_append, List.nil_append, List.getElem?_cons_zero, List.getElem?_cons_succ, List.getElem?_nil, List.take_succ_cons, List.take_zero, List.drop_succ_cons, List.drop_zero, List.all_cons, List.all_nil, List.set_cons_zero, List.set_cons_succ, List.append_nil, Option.map_some, Option.map_none, cond_true, cond_false, Bool.true_eq_false, Bool.false_eq_true, Bool.not_true, Bool.not_false, Nat.reduceEqDiff, Nat.reduceAdd, Nat.reduceMul, Nat.reduceSub, Nat.reduceLeDiff, Nat.reduceLT, true_and, and_true, reduceCtorEq, Nat.zero_add, Nat.add_zero, Nat.zero_mul, Nat.le_refl, Int.toNat_natCast, Bool.and_self, Bool.true_and, Bool.and_true, if_true, eq_self, forall_const, and_self, implies_true]
          refine TXi_of (TX_count (g10 _) ss.length (fun y => [(0, .v (.slice p ds.length c)), (1, .v (.slice p2 ss.length c2)), (5, .ptr 0 0), (9, .v (.int .i64 (x : Int))), (10, .v (.int .i64 (S.getD x 0))), (11, .v (.int .i64 (wantF (x : Int) (ss.take y)))), (42, .agg (iL S)), (43, .v (.int .i64 (x : Int))), (47, .v (.slice p2 ss.length c2)), (48, .v (.int .i64 (ss.length : Int))), (49, .v (.int .i64 (y : Int)))]) (fun y => [⟨true, iL T⟩]) (fun y => True) trivial ?_ ?_ ?_)
          · have w0 : wantF (x : Int) [] = 0 := rfl
            exact ⟨[0], by simp, by simp only [FitM, ObLe, LeL, Le, List.cons_append, List.nil_append] <;> (try (simp (maxSteps := 2000000) -implicitDefEqProofs only [Sz.iL_fold, Sz.iL_over, Sz.iL_all, Sz.iL_get, Sz.iL_len, Sz.iL_take, Sz.iL_drop, Sz.iL_one, Sz.iL_plain, Sz.iL_le, List.length_set, List.take_zero, w0, ↓Sz.s_loopi, ↓Sz.v_pq, ↓Sz.PRE, Sz.POST, Sz.of_int, Sz.of_bool, Sz.of_str, Sz.of_sl, Sz.of_p, Sz.of_agg, Int.cast_ofNat_Int, Nat.mul_one, Nat.reduceDiv, Nat.reduceMod, Int.reduceLT, Int.reduceLE, Int.reduceToNat, Int.reduceAdd, decide_true, decide_false, ↓reduceIte, List.map_cons, List.map_nil, List.length_cons, List.length_nil, List.cons_append, List.nil_append, List.getElem?_cons_zero, List.getElem?_cons_succ, List.getElem?_nil, List.take_succ_cons, List.take_zero, List.drop_succ_cons, List.drop_zero, List.all_cons, List.all_nil, List.set_cons_zero, List.set_cons_succ, List.append_nil, Option.map_some, Option.map_none, cond_true, cond_false, Bool.true_eq_false, Bool.false_eq_true, Bool.not_true, Bool.not_false, Nat.reduceEqDiff, Nat.reduceAdd, Nat.reduceMul, Nat.reduceSub, Nat.reduceLeDiff, Nat.reduceLT, true_and, and_true, reduceCtorEq, Nat.zero_add, Nat.add_zero, Nat.zero_mul, Nat.le_refl, Int.toNat_natCast, Bool.and_self, Bool.true_and, Bool.and_true, if_true, eq_self, forall_const, and_self, implies_true])) <;> (try simp), by simp only [FitE, Le, LeL, List.cons_append, List.nil_append] <;> (try (simp (maxSteps := 2000000) -implicitDefEqProofs only [Sz.iL_fold, Sz.iL_over, Sz.iL_all, Sz.iL_get, Sz.iL_len, Sz.iL_take, Sz.iL_drop, Sz.iL_one, Sz.iL_plain, Sz.iL_le, List.length_set, List.take_zero, w0, ↓Sz.s_loopi, ↓Sz.v_pq, ↓Sz.PRE, Sz.POST, Sz.of_int, Sz.of_bool, Sz.of_str, Sz.of_sl, Sz.of_p, Sz.of_agg, Int.cast_ofNat_Int, Nat.mul_one, Nat.reduceDiv, Nat.reduceMod, Int.reduceLT, Int.reduceLE, Int.reduceToNat, Int.reduceAdd, decide_true, decide_false, ↓reduceIte, List.map_cons, List.map_nil, List.length_cons, List.length_nil, List.cons_append, List.nil_append, List.getElem?_cons_zero, List.getElem?_cons_succ, List.getElem?_nil, List.take_succ_cons, List.take_zero, List.drop_succ_cons, List.drop_zero, List.all_cons, List.all_nil, List.set_cons_zero, List.set_cons_succ, List.append_nil, Option.map_some, Option.map_none, cond_true, cond_false, Bool.true_eq_false, Bool.false_eq_true, Bool.not_true, Bool.not_false, Nat.reduceEqDiff, Nat.reduceAdd, Nat.reduceMul, Nat.reduceSub, Nat.reduceLeDiff, Nat.reduceLT, true_and, and_true, reduceCtorEq, Nat.zero_add, Nat.add_zero, Nat.zero_mul, Nat.le_refl, Int.toNat_natCast, Bool.and_self, Bool.true_and, Bool.and_true, if_true, eq_self, forall_const, and_self, implies_true])) <;> (try simp), keep0 hJ⟩
          · intro y hy _
            obtain ⟨d, hd⟩ : ∃ d, ss[y]? = some d := ⟨_, List.getElem?_eq_getElem hy⟩
            have f : inpL (plusA p2 (y * 8)) 8 = some [.int .i64 d.kind, .int .i64 d.a, .int .i64 d.b, .int .i64 d.c, .int .i64 d.d, .int .i64 d.e, .int .i64 d.f, .string d.g] := hitem2 y d hd
            have hp : p2.isSome = true := inpL_isSome hin2 (by omega)
            have j0 : (0 : Int) ≤ (y : Int) := by omega
            have j1 : (y : Int) < (ss.length : Int) := by omega
            have w1 : IntKind.i64.wrap ((y : Int) + 1) = (y : Int) + 1 := wrap_id (by omega) (by omega)
            have hs : wantF (x : Int) (ss.take (y + 1)) = if kindF d = (x : Int) then IntKind.i64.wrap (wantF x (ss.take y) + 1) else wantF x (ss.take y) := foldl_snoc _ _ hd
            have hk3 : (d.kind < 0 ∧ kindF d = 0) ∨ (9 ≤ d.kind ∧ kindF d = 0) ∨ (0 ≤ d.kind ∧ d.kind < 9 ∧ kindF d = d.kind) := by
              unfold kindF
              by_cases q1 : d.kind < 0
              · exact .inl ⟨q1, if_pos q1⟩
              · by_cases q2 : 9 ≤ d.kind
                · exact .inr (.inl ⟨q2, by rw [if_neg q1, if_pos q2]⟩)
                · exact .inr (.inr ⟨by omega, by omega, by rw [if_neg q1, if_neg q2]⟩)
            simp (maxSteps := 2000000) -implicitDefEqProofs only [f, hp, j0, j1, w1, ↓Sz.s_loopi, ↓Sz.v_pq, ↓Sz.PRE, Sz.POST, Sz.of_int, Sz.of_bool, Sz.of_str, Sz.of_sl, Sz.of_p, Sz.of_agg, Int.cast_ofNat_Int, Nat.mul_one, Nat.reduceDiv, Nat.reduceMod, Int.reduceLT, Int.reduceLE, Int.reduceToNat, Int.reduceAdd, decide_true, decide_false, ↓reduceIte, List.map_cons, List.map_nil, List.length_cons, List.length_nil, List.cons_append, List.nil_append, List.getElem?_cons_zero, List.getElem?_cons_succ, List.getElem?_nil, List.take_succ_cons, List.take_zero, List.drop_succ_cons, List.drop_zero, List.all_cons, List.all_nil, List.set_cons_zero, List.set_cons_succ, List.append_nil, Option.map_some, Option.map_none, cond_true, cond_false, Bool.true_eq_false, Bool.false_eq_true, Bool.not_true, Bool.not_false, Nat.reduceEqDiff, Nat.reduceAdd, Nat.reduceMul, Nat.reduceSub, Nat.reduceLeDiff, Nat.reduceLT, true_and, and_true, reduceCtorEq, Nat.zero_add, Nat.add_zero, Nat.zero_mul, Nat.le_refl, Int.toNat_natCast, Bool.and_self, Bool.true_and, Bool.and_true, if_true, eq_self, forall_const, and_self, implies_true]
            simp only [decide_eq_true_eq, decide_eq_false_iff_not, beq_iff_eq, beq_eq_false_iff_ne, ne_eq]
            by_cases hkx : kindF d = (x : Int)
            · rw [if_pos hkx] at hs
              repeat' split
              all_goals first | (exfalso; omega) | exact ⟨[0], by simp, by simp only [FitM, ObLe, LeL, Le, List.cons_append, List.nil_append] <;> (try (simp (maxSteps := 2000000) -implicitDefEqProofs only [Sz.iL_fold, Sz.iL_over, Sz.iL_all, Sz.iL_get, Sz.iL_len, Sz.iL_take, Sz.iL_drop, Sz.iL_one, Sz.iL_plain, Sz.iL_le, List.length_set, hs, ↓Sz.s_loopi, ↓Sz.v_pq, ↓Sz.PRE, Sz.POST, Sz.of_int, Sz.of_bool, Sz.of_str, Sz.of_sl, Sz.of_p, Sz.of_agg, Int.cast_ofNat_Int, Nat.mul_one, Nat.reduceDiv, Nat.reduceMod, Int.reduceLT, Int.reduceLE, Int.reduceToNat, Int.reduceAdd, decide_true, decide_false, ↓reduceIte, List.map_cons, List.map_nil, List.length_cons, List.length_nil, List.cons_append, List.nil_append, List.getElem?_cons_zero, List.getElem?_cons_succ, List.getElem?_nil, List.take_succ_cons, List.take_zero, List.drop_succ_cons, List.drop_zero, List.all_cons, List.all_nil, List.set_cons_zero, List.set_cons_succ, List.append_nil, Option.map_some, Option.map_none, cond_true, cond_false, Bool.true_eq_false, Bool.false_eq_true, Bool.not_true, Bool.not_false, Nat.reduceEqDiff, Nat.reduceAdd, Nat.reduceMul, Nat.reduceSub, Nat.reduceLeDiff, Nat.reduceLT, true_and, and_true, reduceCtorEq, Nat.zero_add, Nat.add_zero, Nat.zero_mul, Nat.le_refl, Int.toNat_natCast, Bool.and_self, Bool.true_and, Bool.and_true, if_true, eq_self, forall_const, and_self, implies_true])) <;> (try simp), by simp only [FitE, Le, LeL, List.cons_append, List.nil_append] <;> (try (simp (maxSteps := 2000000) -implicitDefEqProofs only [Sz.iL_fold, Sz.iL_over, Sz.iL_all, Sz.iL_get, Sz.iL_len, Sz.iL_take, Sz.iL_drop, Sz.iL_one, Sz.iL_plain, Sz.iL_le, List.length_set, hs, ↓Sz.s_loopi, ↓Sz.v_pq, ↓Sz.PRE, Sz.POST, Sz.of_int, Sz.of_bool, Sz.of_str, Sz.of_sl, Sz.of_p, Sz.of_agg, Int.cast_ofNat_Int, Nat.mul_one, Nat.reduceDiv, Nat.reduceMod, Int.reduceLT, Int.reduceLE, Int.reduceToNat, Int.reduceAdd, decide_true, decide_false, ↓reduceIte, List.map_cons, List.map_nil, List.length_cons, List.length_nil, List.cons_append, List.nil_append, List.getElem?_cons_zero, List.getElem?_cons_succ, List.getElem?_nil, List.take_succ_cons, List.take_zero, List.drop_succ_cons, List.drop_zero, List.all_cons, List.all_nil, List.set_cons_zero, List.set_cons_succ, List.append_nil, Option.map_some, Option.map_none, cond_true, cond_false, Bool.true_eq_false, Bool.false_eq_true, Bool.not_true, Bool.not_false, Nat.reduceEqDiff, Nat.reduceAdd, Nat.reduceMul, Nat.reduceSub, Nat.reduceLeDiff, Nat.reduceLT, true_and, and_true, reduceCtorEq, Nat.zero_add, Nat.add_zero, Nat.zero_mul, Nat.le_refl, Int.toNat_natCast, Bool.and_self, Bool.true_and, Bool.and_true, if_true, eq_self, forall_const, and_self, implies_true])) <;> (try simp), keep0 hJ⟩
            · rw [if_neg hkx] at hs
              repeat' split
              all_goals first | (exfalso; omega) | exact ⟨[0], by simp, by simp only [FitM, ObLe, LeL, Le, List.cons_append, List.nil_append] <;> (try (simp (maxSteps := 2000000) -implicitDefEqProofs only [Sz.iL_fold, Sz.iL_over, Sz.iL_all, Sz.iL_get, Sz.iL_len, Sz.iL_take, Sz.iL_drop, Sz.iL_one, Sz.iL_plain, Sz.iL_le, List.length_set, hs, ↓Sz.s_loopi, ↓Sz.v_pq, ↓Sz.PRE, Sz.POST, Sz.of_int, Sz.of_bool, Sz.of_str, Sz.of_sl, Sz.of_p, Sz.of_agg, Int.cast_ofNat_Int, Nat.mul_one, Nat.reduceDiv, Nat.reduceMod, Int.reduceLT, Int.reduceLE, Int.reduceToNat, Int.reduceAdd, decide_true, decide_false, ↓reduceIte, List.map_cons, List.map_nil, List.length_cons, List.length_nil, List.cons_append, List.nil_append, List.getElem?_cons_zero, List.getElem?_cons_succ, List.getElem?_nil, List.take_succ_cons, List.take_zero, List.drop_succ_cons, List.drop_zero, List.all_cons, List.all_nil, List.set_cons_zero, List.set_cons_succ, List.append_nil, Option.map_some, Option.map_none, cond_true, cond_false, Bool.true_eq_false, Bool.false_eq_true, Bool.not_true, Bool.not_false, Nat.reduceEqDiff, Nat.reduceAdd, Nat.reduceMul, Nat.reduceSub, Nat.reduceLeDiff, Nat.reduceLT, true_and, and_true, reduceCtorEq, Nat.zero_add, Nat.add_zero, Nat.zero_mul, Nat.le_refl, Int.toNat_natCast, Bool.and_self, Bool.true_and, Bool.and_true, if_true, eq_self, forall_const, and_self, implies_true])) <;> (try simp), by simp only [FitE, Le, LeL, List.cons_append, List.nil_append] <;> (try (simp (maxSteps := 2000000) -implicitDefEqProofs only [Sz.iL_fold, Sz.iL_over, Sz.iL_all, Sz.iL_get, Sz.iL_len, Sz.iL_take, Sz.iL_drop, Sz.iL_one, Sz.iL_plain, Sz.iL_le, List.length_set, hs, ↓Sz.s_loopi, ↓Sz.v_pq, ↓Sz.PRE, Sz.POST, Sz.of_int, Sz.of_bool, Sz.of_str, Sz.of_sl, Sz.of_p, Sz.of_agg, Int.cast_ofNat_Int, Nat.mul_one, Nat.reduceDiv, Nat.reduceMod, Int.reduceLT, Int.reduceLE, Int.reduceToNat, Int.reduceAdd, decide_true, decide_false, ↓reduceIte, List.map_cons, List.map_nil, List.length_cons, List.length_nil, List.cons_append, List.nil_append, List.getElem?_cons_zero, List.getElem?_cons_succ, List.getElem?_nil, List.take_succ_cons, List.take_zero, List.drop_succ_cons, List.drop_zero, List.all_cons, List.all_nil, List.set_cons_zero, List.set_cons_succ, List.append_nil, Option.map_some, Option.map_none, cond_true, cond_false, Bool.true_eq_false, Bool.false_eq_true, Bool.not_true, Bool.not_false, Nat.reduceEqDiff, Nat.reduceAdd, Nat.reduceMul, Nat.reduceSub, Nat.reduceLeDiff, Nat.reduceLT, true_and, and_true, reduceCtorEq, Nat.zero_add, Nat.add_zero, Nat.zero_mul, Nat.le_refl, Int.toNat_natCast, Bool.and_self, Bool.true_and, Bool.and_true, if_true, eq_self, forall_const, and_self, implies_true])) <;> (try simp), keep0 hJ⟩
          · intro _
            have j1 : ¬ (ss.length : Int) < (ss.length : Int) := by omega
            have i5 := sst x hx
            have w1 : IntKind.i64.wrap ((x : Int) + 1) = (x : Int) + 1 := wrap_id (by omega) (by omega)
            simp (maxSteps := 2000000) -implicitDefEqProofs only [j1, List.take_length, i5, w1, bne_self_eq_false, ↓Sz.s_loopi, ↓Sz.v_pq, ↓Sz.PRE, Sz.POST, Sz.of_int, Sz.of_bool, Sz.of_str, Sz.of_sl, Sz.of_p, Sz.of_agg, Int.cast_ofNat_Int, Nat.mul_one, Nat.reduceDiv, Nat.reduceMod, Int.reduceLT, Int.reduceLE, Int.reduceToNat, Int.reduceAdd, decide_true, decide_false, ↓reduceIte, List.map_cons, List.map_nil, List.length_cons, List.length_nil, List.cons_append, List.nil_append, List.getElem?_cons_zero, List.getElem?_cons_succ, List.getElem?_nil, List.take_succ_cons, List.take_zero, List.drop_succ_cons, List.drop_zero, List.all_cons, List.all_nil, List.set_cons_zero, List.set_cons_succ, List.append_nil, Option.map_some, Option.map_none, cond_true, cond_false, Bool.true_eq_false, Bool.false_eq_true, Bool.not_true, Bool.not_false, Nat.reduceEqDiff, Nat.reduceAdd, Nat.reduceMul, Nat.reduceSub, Nat.reduceLeDiff, Nat.reduceLT, true_and, and_true, reduceCtorEq, Nat.zero_add, Nat.add_zero, Nat.zero_mul, Nat.le_refl, Int.toNat_natCast, Bool.and_self, Bool.true_and, Bool.and_true, if_true, eq_self, forall_const, and_self, implies_true]
            exact ⟨[0], by simp, by simp only [FitM, ObLe, LeL, Le, List.cons_append, List.nil_append] <;> (try (simp (maxSteps := 2000000) -implicitDefEqProofs only [Sz.iL_fold, Sz.iL_over, Sz.iL_all, Sz.iL_get, Sz.iL_len, Sz.iL_take, Sz.iL_drop, Sz.iL_one, Sz.iL_plain, Sz.iL_le, List.length_set, ↓Sz.s_loopi, ↓Sz.v_pq, ↓Sz.PRE, Sz.POST, Sz.of_int, Sz.of_bool, Sz.of_str, Sz.of_sl, Sz.of_p, Sz.of_agg, Int.cast_ofNat_Int, Nat.mul_one, Nat.reduceDiv, Nat.reduceMod, Int.reduceLT, Int.reduceLE, Int.reduceToNat, Int.reduceAdd, decide_true, decide_false, ↓reduceIte, List.map_cons, List.map_nil, List.length_cons, List.length_nil, List.cons_append, List.nil_append, List.getElem?_cons_zero, List.getElem?_cons_succ, List.getElem?_nil, List.take_succ_cons, List.take_zero, List.drop_succ_cons, List.drop_zero, List.all_cons, List.all_nil, List.set_cons_zero, List.set_cons_succ, List.append_nil, Option.map_some, Option.map_none, cond_true, cond_false, Bool.true_eq_false, Bool.false_eq_true, Bool.not_true, Bool.not_false, Nat.reduceEqDiff, Nat.reduceAdd, Nat.reduceMul, Nat.reduceSub, Nat.reduceLeDiff, Nat.reduceLT, true_and, and_true, reduceCtorEq, Nat.zero_add, Nat.add_zero, Nat.zero_mul, Nat.le_refl, Int.toNat_natCast, Bool.and_self, Bool.true_and, Bool.and_true, if_true, eq_self, forall_const, and_self, implies_true])) <;> (try simp), by simp only [FitE, Le, LeL, List.cons_append, List.nil_append] <;> (try (simp (maxSteps := 2000000) -implicitDefEqProofs only [Sz.iL_fold, Sz.iL_over, Sz.iL_all, Sz.iL_get, Sz.iL_len, Sz.iL_take, Sz.iL_drop, Sz.iL_one, Sz.iL_plain, Sz.iL_le, List.length_set, ↓Sz.s_loopi, ↓Sz.v_pq, ↓Sz.PRE, Sz.POST, Sz.of_int, Sz.of_bool, Sz.of_str, Sz.of_sl, Sz.of_p, Sz.of_agg, Int.cast_ofNat_Int, Nat.mul_one, Nat.reduceDiv, Nat.reduceMod, Int.reduceLT, Int.reduceLE, Int.reduceToNat, Int.reduceAdd, decide_true, decide_false, ↓reduceIte, List.map_cons, List.map_nil, List.length_cons, List.length_nil, List.cons_append, List.nil_append, List.getElem?_cons_zero, List.getElem?_cons_succ, List.getElem?_nil, List.take_succ_cons, List.take_zero, List.drop_succ_cons, List.drop_zero, List.all_cons, List.all_nil, List.set_cons_zero, List.set_cons_succ, List.append_nil, Option.map_some, Option.map_none, cond_true, cond_false, Bool.true_eq_false, Bool.false_eq_true, Bool.not_true, Bool.not_false, Nat.reduceEqDiff, Nat.reduceAdd, Nat.reduceMul, Nat.reduceSub, Nat.reduceLeDiff, Nat.reduceLT, true_and, and_true, reduceCtorEq, Nat.zero_add, Nat.add_zero, Nat.zero_mul, Nat.le_refl, Int.toNat_natCast, Bool.and_self, Bool.true_and, Bool.and_true, if_true, eq_self, forall_const, and_self, implies_true])) <;> (try simp), keep0 hJ⟩
        · intro _
          by_cases hz : ds.length = 0
          · obtain ⟨e1, e2⟩ := te hz
            have k0 : ¬ (0 : Int) < (ds.length : Int) := by omega
            simp (maxSteps := 2000000) -implicitDefEqProofs only [↓G10, ↓c57, ↓c58, optK_some, Sz.iL_fold, Sz.iL_over, Sz.iL_all, Sz.iL_get, Sz.iL_len, Sz.iL_take, Sz.iL_drop, Sz.iL_one, Sz.iL_plain, Sz.iL_le, List.length_set, r1, hb, l1, k0, e1, e2, tby, tg, beq_self_eq_true, ↓Sz.s_loopi, ↓Sz.v_pq, ↓Sz.PRE, Sz.POST, Sz.of_int, Sz.of_bool, Sz.of_str, Sz.of_sl, Sz.of_p, Sz.of_agg, Int.cast_ofNat_Int, Nat.mul_one, Nat.reduceDiv, Nat.reduceMod, Int.reduceLT, Int.reduceLE, Int.reduceToNat, Int.reduceAdd, decide_true, decide_false, ↓reduceIte, List.map_cons, List.map_nil, List.length_cons, List.length_nil, List.cons_append, List.nil_append, List.getElem?_cons_zero, List.getElem?_cons_succ, List.getElem?_nil, List.take_succ_cons, List.take_zero, List.drop_succ_cons, List.drop_zero, List.all_cons, List.all_nil, List.set_cons_zero, List.set_cons_succ, List.append_nil, Option.map_some, Option.map_none, cond_true, cond_false, Bool.true_eq_false, Bool.false_eq_true, Bool.not_true, Bool.not_false, Nat.reduceEqDiff, Nat.reduceAdd, Nat.reduceMul, Nat.reduceSub, Nat.reduceLeDiff, Nat.reduceLT, true_and, and_true, reduceCtorEq, Nat.zero_add, Nat.add_zero, Nat.zero_mul, Nat.le_refl, Int.toNat_natCast, Bool.and_self, Bool.true_and, Bool.and_true, if_true, eq_self, forall_const, and_self, implies_true]
            exact hk
          · have hpos : 0 < ds.length := by omega
            obtain ⟨d0, hd0⟩ : ∃ d, ds[0]? = some d := ⟨_, List.getElem?_eq_getElem hpos⟩
            obtain ⟨dl, hdl⟩ : ∃ d, ds[ds.length - 1]? = some d := ⟨_, List.getElem?_eq_getElem (by omega)⟩
            obtain ⟨e1, e2⟩ := tf d0 dl hd0 hpos hdl
            have f1 : inpL (plusA (plusA p 0) 0) 1 = some [.int .i64 d0.slot] := by simpa using hitem 0 d0 hd0
            have f2 : inpL (plusA (plusA p (((ds.length : Int) - 1).toNat * 3)) 0) 1 = some [.int .i64 dl.slot] := by
              have := hitem (ds.length - 1) dl hdl
              rwa [show ((ds.length : Int) - 1).toNat = ds.length - 1 by omega]
            have hp : p.isSome = true := inpL_isSome hin (by omega)
            have w1 : IntKind.i64.wrap ((ds.length : Int) - 1) = (ds.length : Int) - 1 := wrap_id (by omega) (by omega)
            have k0 : (0 : Int) < (ds.length : Int) := by omega
            have k1 : (0 : Int) ≤ (ds.length : Int) - 1 := by omega
            have k2 : (ds.length : Int) - 1 < (ds.length : Int) := by omega
            simp (maxSteps := 2000000) -implicitDefEqProofs only [↓G10, ↓c57, ↓c58, optK_some, Sz.iL_fold, Sz.iL_over, Sz.iL_all, Sz.iL_get, Sz.iL_len, Sz.iL_take, Sz.iL_drop, Sz.iL_one, Sz.iL_plain, Sz.iL_le, List.length_set, r1, hb, l1, e1, e2, tby, tg, f1, f2, hp, w1, k0, k1, k2, beq_self_eq_true, ↓Sz.s_loopi, ↓Sz.v_pq, ↓Sz.PRE, Sz.POST, Sz.of_int, Sz.of_bool, Sz.of_str, Sz.of_sl, Sz.of_p, Sz.of_agg, Int.cast_ofNat_Int, Nat.mul_one, Nat.reduceDiv, Nat.reduceMod, Int.reduceLT, Int.reduceLE, Int.reduceToNat, Int.reduceAdd, decide_true, decide_false, ↓reduceIte, List.map_cons, List.map_nil, List.length_cons, List.length_nil, List.cons_append, List.nil_append, List.getElem?_cons_zero, List.getElem?_cons_succ, List.getElem?_nil, List.take_succ_cons, List.take_zero, List.drop_succ_cons, List.drop_zero, List.all_cons, List.all_nil, List.set_cons_zero, List.set_cons_succ, List.append_nil, Option.map_some, Option.map_none, cond_true, cond_false, Bool.true_eq_false, Bool.false_eq_true, Bool.not_true, Bool.not_false, Nat.reduceEqDiff, Nat.reduceAdd, Nat.reduceMul, Nat.reduceSub, Nat.reduceLeDiff, Nat.reduceLT, true_and, and_true, reduceCtorEq, Nat.zero_add, Nat.add_zero, Nat.zero_mul, Nat.le_refl, Int.toNat_natCast, Bool.and_self, Bool.true_and, Bool.and_true, if_true, eq_self, forall_const, and_self, implies_true]
            exact hk
    · have hm : mayL ds = false := by simpa using hm
      simp (maxSteps := 2000000) -implicitDefEqProofs only [↓x10, ↓r10, ↓G10, ↓c52, ↓c53, optK_some, hm, r1, hb, ↓Sz.s_loopi, ↓Sz.v_pq, ↓Sz.PRE, Sz.POST, Sz.of_int, Sz.of_bool, Sz.of_str, Sz.of_sl, Sz.of_p, Sz.of_agg, Int.cast_ofNat_Int, Nat.mul_one, Nat.reduceDiv, Nat.reduceMod, Int.reduceLT, Int.reduceLE, Int.reduceToNat, Int.reduceAdd, decide_true, decide_false, ↓reduceIte, List.map_cons, List.map_nil, List.length_cons, List.length_nil, List.cons_append, List.nil_append, List.getElem?_cons_zero, List.getElem?_cons_succ, List.getElem?_nil, List.take_succ_cons, List.take_zero, List.drop_succ_cons, List.drop_zero, List.all_cons, List.all_nil, List.set_cons_zero, List.set_cons_succ, List.append_nil, Option.map_some, Option.map_none, cond_true, cond_false, Bool.true_eq_false, Bool.false_eq_true, Bool.not_true, Bool.not_false, Nat.reduceEqDiff, Nat.reduceAdd, Nat.reduceMul, Nat.reduceSub, Nat.reduceLeDiff, Nat.reduceLT, true_and, and_true, reduceCtorEq, Nat.zero_add, Nat.add_zero, Nat.zero_mul, Nat.le_refl, Int.toNat_natCast, Bool.and_self, Bool.true_and, Bool.and_true, if_true, eq_self, forall_const, and_self, implies_true]
      exact hk
  · exact h.elim
end Go.Proofs.Ytppndeoiifkkkaa
