/- What was planned is read as it was: the plain law. -/
import Derived.Test.YtifmdcjncbbcgaaTreeM
set_option linter.unusedVariables false
set_option linter.unusedSimpArgs false
set_option linter.unusedSectionVars false
set_option maxRecDepth 100000
namespace Go.Proofs.Ytifmdcjncbbcgaa
open Go.EW Go.RowKit

theorem partS_get (ks : List Int) (a n i : Nat) (h : i < n) : (partS ks a n)[i]? = some (ks.getD (a + i) 0) := by
  simp [partS, h]
theorem partS_getD (ks : List Int) (a n i : Nat) (h : i < n) : (partS ks a n).getD i 0 = ks.getD (a + i) 0 := by
  rw [List.getD_eq_getElem?_getD, partS_get ks a n i h]; rfl
theorem partS_app (ks : List Int) (a n m : Nat) : partS ks a n ++ partS ks (a + n) m = partS ks a (n + m) := by
  induction m with
  | zero => simp [partS]
  | succ m ih => rw [partS_succ, ← List.append_assoc, ih, ← Nat.add_assoc, partS_succ, Nat.add_assoc]
theorem part_zero {ks : List Int} {a n : Nat} (h : (partS ks a n).any nzI = false) : partS ks a n = List.replicate n 0 := by
  apply List.ext_getElem?
  intro i
  by_cases hi : i < n
  · rw [partS_get ks a n i hi, List.getElem?_replicate, if_pos hi]
    rw [List.any_eq_false] at h
    have := h _ (List.mem_of_getElem? (partS_get ks a n i hi))
    simpa [nzI] using this
  · rw [List.getElem?_eq_none (by rw [partS_length]; omega), List.getElem?_eq_none (by simp; omega)]
theorem flatU_part (ks : List Int) : ∀ i, flatU (fun i => partS ks (34 + 30 * i) 30) i = partS ks 34 (30 * i)
  | 0 => rfl
  | i + 1 => by rw [flatU, flatU_part ks i, partS_app, show 30 * (i + 1) = 30 * i + 30 from by omega]
theorem trimN_more (ks : List Int) : ∀ d, trimN ks (ks.length + d) = trimN ks ks.length
  | 0 => rfl
  | d + 1 => by
    rw [← Nat.add_assoc, trimN, if_pos, trimN_more ks d]
    rw [List.getD_eq_getElem?_getD, List.getElem?_eq_none (by omega)]; rfl
theorem trimN_part (ks : List Int) (n : Nat) : ∀ i, i ≤ n → trimN (partS ks 0 n) i = trimN ks i
  | 0, _ => rfl
  | i + 1, h => by rw [trimN, trimN, partS_getD ks 0 n i (by omega), Nat.zero_add, trimN_part ks n i (by omega)]
theorem trim_part {ks : List Int} {n : Nat} (h : ks.length ≤ n) : trimS (partS ks 0 n) = trimS ks := by
  unfold trimS
  rw [partS_length, trimN_part ks n n (Nat.le_refl _), show n = ks.length + (n - ks.length) from by omega, trimN_more]
  have hle := trimN_le ks ks.length
  apply List.ext_getElem?
  intro i
  rw [List.getElem?_take, List.getElem?_take]
  split
  · rw [partS_get _ _ _ _ (by omega), Nat.zero_add, List.getD_eq_getElem?_getD, List.getElem?_eq_getElem (by omega)]; rfl
  · rfl
/-- good, by places -/
theorem good_iff {ks : List Int} : Good ks ↔ ∀ i, ks.getD i 0 ≠ 0 → dataI (ks.getD i 0) = true ∧ ∀ j, j < i → ks.getD j 0 ≠ ks.getD i 0 := by
  have hg : ∀ i (h : i < ks.length), ks.getD i 0 = ks[i] := fun i h => by rw [List.getD_eq_getElem?_getD, List.getElem?_eq_getElem h]; rfl
  constructor
  · intro h i h0
    have hi := getD_lt h0
    rw [hg i hi] at h0 ⊢
    obtain ⟨h1, h2⟩ := h i hi h0
    refine ⟨h1, fun j hj e => h2 ?_⟩
    rw [hg j (by omega)] at e
    rw [← e]
    exact List.mem_iff_getElem.2 ⟨j, by simp; omega, by simp⟩
  · intro h i hi h0
    rw [← hg i hi] at h0 ⊢
    obtain ⟨h1, h2⟩ := h i h0
    refine ⟨h1, fun hm => ?_⟩
    obtain ⟨j, hj, e⟩ := List.mem_iff_getElem.1 hm
    simp at hj
    refine h2 j (by omega) ?_
    rw [hg j (by omega), ← e]
    simp
theorem good_part {ks : List Int} (h : Good ks) (a n : Nat) : Good (partS ks a n) := by
  rw [good_iff] at h ⊢
  intro i h0
  have hi := getD_lt h0
  rw [partS_length] at hi
  rw [partS_getD _ _ _ _ hi] at h0 ⊢
  obtain ⟨h1, h2⟩ := h (a + i) h0
  exact ⟨h1, fun j hj => by rw [partS_getD _ _ _ _ (by omega)]; exact h2 (a + j) (by omega)⟩
theorem getD_take {ks : List Int} {n i : Nat} (h : i < n) : (ks.take n).getD i 0 = ks.getD i 0 := by
  rw [List.getD_eq_getElem?_getD, List.getElem?_take_of_lt h, List.getD_eq_getElem?_getD]
theorem good_take {ks : List Int} (h : Good ks) (n : Nat) : Good (ks.take n) := by
  rw [good_iff] at h ⊢
  intro i h0
  have hi := getD_lt h0
  simp at hi
  rw [getD_take (by omega)] at h0 ⊢
  obtain ⟨h1, h2⟩ := h i h0
  exact ⟨h1, fun j hj => by rw [getD_take (by omega)]; exact h2 j hj⟩
theorem P30_getD (l : List Int) (i : Nat) : (P30 l).getD i 0 = l.getD i 0 := by
  unfold P30
  rw [List.getD_eq_getElem?_getD, List.getD_eq_getElem?_getD, List.getElem?_append]
  split
  · rfl
  · rw [List.getElem?_replicate, List.getElem?_eq_none (by omega)]
    split <;> rfl
theorem good_P30 {l : List Int} (h : Good l) : Good (P30 l) := by
  rw [good_iff] at h ⊢
  simpa only [P30_getD] using h
theorem undP_get (ks fs : List Int) (n : Nat) : ∀ k i, i < k → (undP ks fs n k).getD i 0 = if someS ks (34 + 30 * i) 30 then fs.getD (n + cntS ks i) 0 else 0
  | k + 1, i, h => by
    have hl := undP_length ks fs n k
    rw [undP, List.getD_eq_getElem?_getD]
    by_cases hi : i < k
    · rw [List.getElem?_append_left (by omega), ← List.getD_eq_getElem?_getD, undP_get ks fs n k i hi]
    · have : i = k := by omega
      subst this
      rw [List.getElem?_append_right (by omega), hl, Nat.sub_self]
      rfl
theorem undW_get {ks fs : List Int} {n : Nat} : ∀ k i, i < k → someS ks (34 + 30 * i) 30 = true → (undW ks fs n k)[cntS ks i]? = some (fs.getD (n + cntS ks i) 0, pageC (partS ks (34 + 30 * i) 30))
  | k + 1, i, h, hs => by
    have hl := undW_length ks fs n k
    rw [undW]
    by_cases hi : i < k
    · have h1 : cntS ks (i + 1) = cntS ks i + 1 := by rw [cntS, if_pos hs]
      have h2 := cntS_mono (ks := ks) (i := i + 1) (j := k) (by omega)
      rw [List.getElem?_append_left (by omega), undW_get k i hi hs]
    · have : i = k := by omega
      subst this
      rw [List.getElem?_append_right (by omega), hl, Nat.sub_self, if_pos hs]
      rfl
structure Planned (ks fs : List Int) : Prop where
  good : Good ks
  len : ks.length ≤ 96
  fl : needS ks ≤ fs.length
  ft : FreshTo ks fs (needS ks)
theorem planned_of {ks fs : List Int} (he : planE ks fs = 0) : Planned ks fs := by
  have hp : ptrsB ks = true := by
    cases hp : ptrsB ks with
    | true => rfl
    | false => rw [planE, hp] at he; cases he
  have hE : freshE ks fs (needS ks) = 0 := by rw [planE, hp] at he; exact he
  unfold ptrsB at hp
  simp at hp
  have hfl : needS ks ≤ fs.length := by unfold freshE at hE; split at hE <;> omega
  refine ⟨hp.1, hp.2, hfl, ?_⟩
  unfold freshE at hE
  rw [if_neg (by omega)] at hE
  split at hE
  · assumption
  · cases hE
section
variable {ks fs : List Int} (P : Planned ks fs)
include P
theorem Planned.nz {j : Nat} (h : j < needS ks) : fs.getD j 0 ≠ 0 ∧ dataI (fs.getD j 0) = true ∧ (∀ i, i < j → fs.getD i 0 ≠ fs.getD j 0) ∧ fs.getD j 0 ∉ ks := by
  have hl := P.fl
  obtain ⟨h1, h2, h3⟩ := P.ft j (by omega) h
  have hg : ∀ i, i ≤ j → fs.getD i 0 = fs[i]! := fun i hi => by rw [List.getD_eq_getElem?_getD, List.getElem?_eq_getElem (by omega), getElem!_pos fs i (by omega)]; rfl
  have hj : fs.getD j 0 = fs[j] := by rw [List.getD_eq_getElem?_getD, List.getElem?_eq_getElem (by omega)]; rfl
  rw [hj]
  refine ⟨by have := dataI_iff.1 h1; omega, h1, fun i hi e => h2 ?_, h3⟩
  rw [← e, List.getD_eq_getElem?_getD, List.getElem?_eq_getElem (by omega)]
  exact List.mem_iff_getElem.2 ⟨i, by simp; omega, by simp⟩
theorem Planned.pl : PL (planL ks fs) fs := by
  have hn2 := need_n2 ks
  have hfl := P.fl
  have hpl0 : PL [] fs := rfl
  have h1 := hpl0.one (s1S ks) (fun h => by have : n1S ks = 1 := by rw [n1S, if_pos h]
                                            have : 1 ≤ n2S ks := by rw [n2S]; omega
                                            simp; omega) (pageC (partS ks 4 30))
  simp only [List.nil_append, List.length_nil] at h1
  have hl1 : (oneL fs 0 (s1S ks) (pageC (partS ks 4 30))).length = n1S ks := oneL_length _ _ _ _
  have h2 := h1.one (b1S ks) (fun h => by have : n2S ks = n1S ks + 1 := by rw [n2S, if_pos h]
                                          omega) (pageC (undP ks fs (n2S ks) 3))
  rw [hl1] at h2
  exact h2.und (by rw [List.length_append, oneL_length, oneL_length]; rfl) 3 (by omega)
theorem Planned.length : (planL ks fs).length = needS ks := by
  have hn2 := need_n2 ks
  unfold planL
  rw [List.length_append, List.length_append, oneL_length, oneL_length, undW_length, hn2]
  rfl
theorem Planned.fd {j : Nat} {l : List UInt8} (hj : (planL ks fs)[j]? = some (fs.getD j 0, l)) (M : List (Int × List UInt8)) : Fd (planL ks fs ++ M) (fs.getD j 0) l := by
  have hjl := (List.getElem?_eq_some_iff.1 hj).1
  have hl := P.length
  have hpl := P.pl
  refine ⟨j, by simp; omega, ?_, fun i hi => ?_⟩
  · rw [List.getElem_append_left hjl]
    exact (List.getElem?_eq_some_iff.1 hj).2
  · rw [List.getElem_append_left (by omega)]
    have h1 : (planL ks fs)[i].1 = fs.getD i 0 := by
      have := congrArg (fun q : List Int => q[i]?) hpl
      simp only [List.getElem?_map, List.getElem?_eq_getElem (show i < (planL ks fs).length by omega), List.getElem?_take_of_lt (show i < (planL ks fs).length by omega), Option.map_some] at this
      rw [List.getD_eq_getElem?_getD, ← this]; rfl
    rw [h1]
    exact (P.nz (j := j) (by omega)).2.2.1 i hi
theorem Planned.pg1 (M : List (Int × List UInt8)) : Pg (planL ks fs ++ M) (planG ks fs) (partS ks 4 30) := by
  cases hs : s1S ks with
  | false => exact .inl ⟨by rw [planG, hs]; rfl, part_zero hs⟩
  | true =>
    have hn2 := need_n2 ks
    have h0 : 0 < needS ks := by rw [hn2, n2S, n1S, if_pos hs]; omega
    have hG : planG ks fs = fs.getD 0 0 := by rw [planG, if_pos hs]
    rw [hG]
    obtain ⟨z1, z2, _, _⟩ := P.nz h0
    have hpl := partS_length ks 4 30
    refine .inr ⟨z1, z2, partS ks 4 30, by simp [P30, hpl], P.fd (j := 0) ?_ M, part_small (good_small P.good) 4 30, by omega, hs, by simp [ptrsB, good_part P.good, hpl]⟩
    unfold planL
    rw [oneL, if_pos hs]
    rfl
theorem Planned.undgood : Good (undP ks fs (n2S ks) 3) := by
  have hn2 := need_n2 ks
  rw [good_iff]
  intro i h0
  have hi := getD_lt h0
  rw [undP_length] at hi
  rw [undP_get _ _ _ _ _ hi] at h0 ⊢
  split at h0
  · rename_i hs
    rw [if_pos hs]
    have h1 : cntS ks (i + 1) = cntS ks i + 1 := by rw [cntS, if_pos hs]
    have h2 := cntS_mono (ks := ks) (i := i + 1) (j := 3) (by omega)
    obtain ⟨z1, z2, z3, _⟩ := P.nz (j := n2S ks + cntS ks i) (by omega)
    refine ⟨z2, fun j hj => ?_⟩
    rw [undP_get _ _ _ _ _ (by omega)]
    split
    · rename_i hsj
      have h3 : cntS ks (j + 1) = cntS ks j + 1 := by rw [cntS, if_pos hsj]
      have h4 := cntS_mono (ks := ks) (i := j + 1) (j := i) (by omega)
      exact z3 _ (by omega)
    · exact fun e => z1 e.symm
  · exact absurd rfl h0
theorem Planned.pg2 (M : List (Int × List UInt8)) : Pg (planL ks fs ++ M) (planB ks fs) (P30 (undP ks fs (n2S ks) 3)) := by
  have hn2 := need_n2 ks
  have hul := undP_length ks fs (n2S ks) 3
  cases hs : b1S ks with
  | false =>
    have h0 : cntS ks 3 = 0 := by simp [b1S] at hs; omega
    refine .inl ⟨by rw [planB, hs]; rfl, ?_⟩
    have hz : undP ks fs (n2S ks) 3 = List.replicate 3 0 := by
      apply List.ext_getElem?
      intro i
      by_cases hi : i < 3
      · have h1 : ¬ someS ks (34 + 30 * i) 30 = true := fun h => by have := (cnt_pos (ks := ks) (k := 3)).2 ⟨i, hi, h⟩; omega
        have h2 := undP_get ks fs (n2S ks) 3 i hi
        rw [if_neg h1, List.getD_eq_getElem?_getD, List.getElem?_eq_getElem (by omega)] at h2
        rw [List.getElem?_eq_getElem (by omega), List.getElem?_replicate, if_pos hi]
        simpa using h2
      · rw [List.getElem?_eq_none (by omega), List.getElem?_eq_none (by simp; omega)]
    rw [P30, hz]
    simp
  | true =>
    have hc : 0 < cntS ks 3 := by simpa [b1S] using hs
    have h2 : n2S ks = n1S ks + 1 := by rw [n2S, if_pos hs]
    have hB : planB ks fs = fs.getD (n1S ks) 0 := by rw [planB, if_pos hs]
    rw [hB]
    obtain ⟨z1, z2, _, _⟩ := P.nz (j := n1S ks) (by omega)
    have hl1 : (oneL fs 0 (s1S ks) (pageC (partS ks 4 30))).length = n1S ks := oneL_length _ _ _ _
    refine .inr ⟨z1, z2, undP ks fs (n2S ks) 3, rfl, P.fd (j := n1S ks) ?_ M, und_small P.ft 3 (by omega), by omega, ?_, by simp [ptrsB, good_P30 P.undgood, P30_length (show (undP ks fs (n2S ks) 3).length ≤ 30 by omega)]⟩
    · unfold planL
      rw [List.append_assoc, List.getElem?_append_right (by omega), hl1, Nat.sub_self, oneL, if_pos hs]
      rfl
    · obtain ⟨j, hj, hsj⟩ := cnt_pos.1 hc
      rw [List.any_eq_true]
      have h3 := undP_get ks fs (n2S ks) 3 j hj
      rw [if_pos hsj] at h3
      have h1 : cntS ks (j + 1) = cntS ks j + 1 := by rw [cntS, if_pos hsj]
      have h4 := cntS_mono (ks := ks) (i := j + 1) (j := 3) (by omega)
      have hz := (P.nz (j := n2S ks + cntS ks j) (by omega)).1
      rw [← h3] at hz
      have hjl := getD_lt hz
      refine ⟨(undP ks fs (n2S ks) 3).getD j 0, List.mem_append_left _ ?_, by simpa [nzI] using hz⟩
      rw [List.getD_eq_getElem?_getD, List.getElem?_eq_getElem hjl]
      exact List.getElem_mem hjl
theorem Planned.pg3 (M : List (Int × List UInt8)) (i : Nat) : Pg (planL ks fs ++ M) ((P30 (undP ks fs (n2S ks) 3)).getD i 0) (partS ks (34 + 30 * i) 30) := by
  have hn2 := need_n2 ks
  have hlen := P.len
  rw [P30_getD]
  by_cases hi : i < 3
  · rw [undP_get _ _ _ _ _ hi]
    cases hs : someS ks (34 + 30 * i) 30 with
    | false => exact .inl ⟨rfl, part_zero hs⟩
    | true =>
      have h1 : cntS ks (i + 1) = cntS ks i + 1 := by rw [cntS, if_pos hs]
      have h2 := cntS_mono (ks := ks) (i := i + 1) (j := 3) (by omega)
      obtain ⟨z1, z2, _, _⟩ := P.nz (j := n2S ks + cntS ks i) (by omega)
      have hpl := partS_length ks (34 + 30 * i) 30
      refine .inr ⟨z1, z2, partS ks (34 + 30 * i) 30, by simp [P30, hpl], P.fd (j := n2S ks + cntS ks i) ?_ M, part_small (good_small P.good) _ 30, by omega, hs, by simp [ptrsB, good_part P.good, hpl]⟩
      unfold planL
      have hl : (oneL fs 0 (s1S ks) (pageC (partS ks 4 30)) ++ oneL fs (n1S ks) (b1S ks) (pageC (undP ks fs (n2S ks) 3))).length = n2S ks := by rw [List.length_append, oneL_length, oneL_length]; rfl
      rw [List.getElem?_append_right (by omega), hl, Nat.add_sub_cancel_left]
      exact undW_get 3 i hi hs
  · refine .inl ⟨?_, part_zero (partS_none (by omega))⟩
    rw [List.getD_eq_getElem?_getD, List.getElem?_eq_none (by rw [undP_length]; omega)]
    rfl
theorem Planned.und_own : ∀ k, k ≤ 3 → (undP ks fs (n2S ks) k).flatMap nzL = (undW ks fs (n2S ks) k).map (·.1)
  | 0, _ => rfl
  | k + 1, hk => by
    have hn2 := need_n2 ks
    rw [undP, undW, List.flatMap_append, List.map_append, Planned.und_own k (by omega)]
    congr 1
    cases hs : someS ks (34 + 30 * k) 30 with
    | false => rfl
    | true =>
      have h1 : cntS ks (k + 1) = cntS ks k + 1 := by rw [cntS, if_pos hs]
      have h2 := cntS_mono (ks := ks) (i := k + 1) (j := 3) (by omega)
      have hz := (P.nz (j := n2S ks + cntS ks k) (by omega)).1
      simp only [if_true, List.flatMap_cons, List.flatMap_nil, List.append_nil, List.map_cons, List.map_nil]
      rw [nzL, if_neg hz]
theorem Planned.own : nzL (planG ks fs) ++ nzL (planB ks fs) ++ (P30 (undP ks fs (n2S ks) 3)).flatMap nzL = fs.take (needS ks) := by
  have hn2 := need_n2 ks
  have hpl := P.pl
  unfold PL at hpl
  rw [P.length] at hpl
  rw [← hpl]
  unfold planL
  rw [List.map_append, List.map_append]
  have hz : (List.replicate (30 - (undP ks fs (n2S ks) 3).length) (0 : Int)).flatMap nzL = [] := by
    rw [List.flatMap_eq_nil_iff]
    intro x hx
    rw [List.eq_of_mem_replicate hx]; rfl
  rw [P30, List.flatMap_append, hz, List.append_nil, P.und_own 3 (by omega)]
  congr 1
  congr 1
  · cases hs : s1S ks with
    | false => rw [planG, hs]; rfl
    | true =>
      have h0 : 0 < needS ks := by rw [hn2, n2S, n1S, if_pos hs]; omega
      rw [planG, hs, if_pos rfl, nzL, if_neg (P.nz h0).1]; rfl
  · cases hs : b1S ks with
    | false => rw [planB, hs]; rfl
    | true =>
      have h2 : n2S ks = n1S ks + 1 := by rw [n2S, if_pos hs]
      rw [planB, hs, if_pos rfl, nzL, if_neg (P.nz (j := n1S ks) (by omega)).1]; rfl
theorem Planned.dist : Dist (fs.take (needS ks) ++ trimS ks) := by
  have hfl := P.fl
  have htl : (fs.take (needS ks)).length = needS ks := by simp; omega
  intro j hj h0
  by_cases hjn : j < needS ks
  · rw [List.getElem_append_left (by omega), List.take_append_of_le_length (by omega), List.take_take, Nat.min_eq_left (by omega), List.getElem_take]
    exact (P.ft j (by omega) hjn).2.1
  · obtain ⟨q, rfl⟩ : ∃ q, j = (fs.take (needS ks)).length + q := ⟨j - needS ks, by omega⟩
    rw [List.length_append] at hj
    have hg := good_take P.good (trimN ks ks.length)
    have e : (fs.take (needS ks) ++ trimS ks)[(fs.take (needS ks)).length + q]'(by rw [List.length_append]; exact hj) = (trimS ks)[q]'(by omega) := by
      rw [List.getElem_append_right (by omega)]; simp
    rw [e] at h0 ⊢
    rw [List.take_append, List.take_of_length_le (by omega), Nat.add_sub_cancel_left, List.mem_append]
    rintro (h | h)
    · obtain ⟨i, hi, ei⟩ := List.mem_iff_getElem.1 h
      rw [List.getElem_take] at ei
      refine (P.ft i (by omega) (by omega)).2.2 ?_
      rw [ei]
      exact List.mem_of_mem_take (List.getElem_mem (l := trimS ks) _)
    · exact (hg q (by unfold trimS at hj; omega) h0).2 h
theorem Planned.trim : trimS (partS ks 0 4 ++ partS ks 4 30 ++ flatU (fun i => partS ks (34 + 30 * i) 30) 30) = trimS ks := by
  have := P.len
  rw [flatU_part, partS_app ks 0 4 30, partS_app ks 0 (4 + 30) (30 * 30)]
  exact trim_part (by omega)
theorem Planned.ptrim : ptrsB (trimS ks) = true := by
  have := P.len
  have h := good_take P.good (trimN ks ks.length)
  unfold ptrsB
  rw [decide_eq_true (show Good (trimS ks) from h), Bool.true_and, decide_eq_true_iff]
  simp [trimS]; omega
end
/-- what was planned is read back -/
theorem back_ok {w : World} {A : Option Addr} {c : Nat} {ks fs : List Int} {M : List (Int × List UInt8)} (he : planE ks fs = 0) (hk : RW w w.heap.size A (planL ks fs ++ M)) (hl : (planL ks fs ++ M).length ≤ 9223372036854775807) :
    Ret Try.prog 15 [.agg (nodeC ks (planG ks fs) (planB ks fs)), .slice A (planL ks fs ++ M).length c] w fun v w' => (∃ v1 v2, v = .tuple #[v1, v2, .int .i64 0] ∧ OI w.heap.size w' v1 (trimS ks) ∧ OI w.heap.size w' v2 (fs.take (needS ks))) ∧ Mods No w w' := by
  have P := planned_of he
  exact read_ok hk hl (P.pg1 M) (P.pg2 M) (fun i _ => P.pg3 M i) P.trim.symm P.own.symm P.ptrim P.dist
end Go.Proofs.Ytifmdcjncbbcgaa
