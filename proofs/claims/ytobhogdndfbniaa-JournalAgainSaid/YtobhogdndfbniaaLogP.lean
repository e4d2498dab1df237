/- The plain law of the log's blocks: what was written is read as it was. -/
import Derived.Test.YtobhogdndfbniaaFindB
set_option linter.unusedVariables false
set_option linter.unusedSimpArgs false
set_option maxRecDepth 100000
namespace Go.Proofs.Ytobhogdndfbniaa
open Go.EW Go.RowKit

theorem putAt_get {l ys : List UInt8} {o j : Nat} (h : o + ys.length ≤ l.length) : (putAt l o ys)[j]? = if o ≤ j ∧ j < o + ys.length then ys[j - o]? else l[j]? := by
  unfold putAt
  rw [List.append_assoc]
  by_cases h1 : j < o
  · rw [List.getElem?_append_left (by simp; omega), if_neg (by omega), List.getElem?_take, if_pos h1]
  · rw [List.getElem?_append_right (by simp; omega)]
    have e : j - (l.take o).length = j - o := by simp; omega
    rw [e]
    by_cases h2 : j < o + ys.length
    · rw [List.getElem?_append_left (by omega), if_pos ⟨by omega, h2⟩]
    · rw [List.getElem?_append_right (by omega), if_neg (by omega), List.getElem?_drop]
      congr 1
      omega
/-- a piece of bytes -/
def sub (l : List UInt8) (o n : Nat) : List UInt8 := (l.drop o).take n
theorem sub_get {l : List UInt8} {o n j : Nat} : (sub l o n)[j]? = if j < n then l[o + j]? else none := by
  unfold sub
  rw [List.getElem?_take, List.getElem?_drop]
theorem sub_putAt_same {l ys : List UInt8} {o : Nat} (h : o + ys.length ≤ l.length) : sub (putAt l o ys) o ys.length = ys := by
  apply List.ext_getElem?
  intro j
  rw [sub_get]
  split
  · rename_i hj
    rw [putAt_get h, if_pos ⟨by omega, by omega⟩]
    congr 1
    omega
  · rename_i hj
    rw [List.getElem?_eq_none (by omega)]
theorem sub_putAt_off {l ys : List UInt8} {o a n : Nat} (h : o + ys.length ≤ l.length) (hoff : a + n ≤ o ∨ o + ys.length ≤ a) : sub (putAt l o ys) a n = sub l a n := by
  apply List.ext_getElem?
  intro j
  rw [sub_get, sub_get]
  split
  · rename_i hj
    rw [putAt_get h, if_neg (by omega)]
  · rfl
theorem setN_sub_off {l : List UInt8} {a size b n : Nat} {ks : List Int} : ∀ (i : Nat), a + i * size ≤ l.length → (b + n ≤ a ∨ a + i * size ≤ b) → sub (setN l a size ks i) b n = sub l b n
  | 0, _, _ => rfl
  | i + 1, h, hoff => by
    have hi : (i + 1) * size = i * size + size := Nat.succ_mul i size
    have hl := setN_length (l := l) (a := a) (size := size) (ks := ks) i (by omega)
    rw [setN, sub_putAt_off (by rw [numB_length, hl]; omega) (by rw [numB_length]; omega)]
    exact setN_sub_off i (by omega) (by omega)
theorem setN_sub_in {l : List UInt8} {a size : Nat} {ks : List Int} : ∀ (i : Nat), a + i * size ≤ l.length → ∀ j, j < i → sub (setN l a size ks i) (a + j * size) size = numB (ks.getD j 0) size
  | 0, _, j, hj => by omega
  | i + 1, h, j, hj => by
    have hi : (i + 1) * size = i * size + size := Nat.succ_mul i size
    have hl := setN_length (l := l) (a := a) (size := size) (ks := ks) i (by omega)
    rw [setN]
    by_cases hji : j = i
    · subst hji
      have := sub_putAt_same (l := setN l a size ks j) (ys := numB (ks.getD j 0) size) (o := a + j * size) (by rw [numB_length, hl]; omega)
      rw [numB_length] at this
      exact this
    · have hjm : (j + 1) * size ≤ i * size := Nat.mul_le_mul_right _ (by omega)
      have hjs : (j + 1) * size = j * size + size := Nat.succ_mul j size
      rw [sub_putAt_off (by rw [numB_length, hl]; omega) (by rw [numB_length]; omega)]
      exact setN_sub_in i (by omega) j (by omega)
theorem leN_numB {k : Int} {size : Nat} (h0 : 0 ≤ k) (h1 : k < 2 ^ (8 * size)) (hs : size ≤ 4) : (leN (numB k size) : Int) = k := by
  unfold numB
  rw [leN_leB]
  have hp : (2 : Nat) ^ (8 * size) ≤ 2 ^ 32 := Nat.pow_le_pow_right (by omega) (by omega)
  have hk : k < 4294967296 := by
    have : ((2 ^ (8 * size) : Nat) : Int) ≤ ((2 ^ 32 : Nat) : Int) := Int.ofNat_le.2 hp
    have e : ((2 ^ (8 * size) : Nat) : Int) = 2 ^ (8 * size) := by push_cast; rfl
    rw [e] at this
    have : (((2 ^ 32 : Nat)) : Int) = 4294967296 := by decide
    omega
  rw [Int.emod_eq_of_lt h0 hk]
  have hkn : k.toNat < 2 ^ (8 * size) := by
    have e : ((2 ^ (8 * size) : Nat) : Int) = 2 ^ (8 * size) := by push_cast; rfl
    rw [← e] at h1
    omega
  rw [Nat.mod_eq_of_lt hkn]
  omega
theorem seal_take {m : List UInt8} (h : m.length = 64) : (sealS m).take 60 = m.take 60 := by
  unfold sealS
  rw [List.take_append_of_le_length (by simp; omega), List.take_take]
  simp
theorem seal_drop {m : List UInt8} (h : m.length = 64) : (sealS m).drop 60 = leB (sumS (m.take 60)).toNat 4 := by
  unfold sealS
  rw [List.drop_append_of_le_length (by simp; omega), List.drop_eq_nil_of_le (by simp; omega), List.nil_append]
theorem sealed_seal {m : List UInt8} (h : m.length = 64) : sealedS (sealS m) = true := by
  have hs := sumS_range (m.take 60)
  unfold sealedS
  rw [seal_take h, seal_drop h, sealS_length h, leN_leB]
  simp only [decide_true, Bool.true_and, decide_eq_true_eq]
  rw [Nat.mod_eq_of_lt (by show _ < 2 ^ 32; omega)]
  omega
theorem sub_seal {m : List UInt8} (h : m.length = 64) {b n : Nat} (hb : b + n ≤ 60) : sub (sealS m) b n = sub m b n := by
  apply List.ext_getElem?
  intro j
  rw [sub_get, sub_get]
  split
  · rename_i hj
    have h1 : ((sealS m).take 60)[b + j]? = (m.take 60)[b + j]? := by rw [seal_take h]
    simp only [List.getElem?_take, show b + j < 60 by omega, if_true] at h1
    exact h1
  · rfl
theorem getD_sub {l : List UInt8} {i : Nat} (h : i < l.length) : (l.getD i 0).toNat = leN (sub l i 1) := by
  have e : sub l i 1 = [l[i]] := by
    unfold sub
    rw [List.drop_eq_getElem_cons h]
    rfl
  rw [e, List.getD_eq_getElem?_getD, List.getElem?_eq_getElem h]
  simp [leN]
theorem begins_begin {s : Int} {ks : List Int} (hs : soundS s ks = true) : beginsS (beginB s ks) = some (s, ks) := by
  obtain ⟨f1, f2, f3, f4, f5⟩ := soundS_facts hs
  obtain ⟨m0, hm0⟩ : ∃ m0, m0 = [66, 69, 71, 78] ++ zerosB 60 := ⟨_, rfl⟩
  have l0 : m0.length = 64 := by rw [hm0]; simp [zerosB]
  obtain ⟨m1, hm1⟩ : ∃ m1, m1 = setS m0 4 4 [s] := ⟨_, rfl⟩
  obtain ⟨m2, hm2⟩ : ∃ m2, m2 = setS m1 8 1 [(ks.length : Int)] := ⟨_, rfl⟩
  obtain ⟨m3, hm3⟩ : ∃ m3, m3 = setS m2 10 2 ks := ⟨_, rfl⟩
  have l1 : m1.length = 64 := by rw [hm1]; unfold setS; rw [setN_length _ (by rw [l0]; simp), l0]
  have l2 : m2.length = 64 := by rw [hm2]; unfold setS; rw [setN_length _ (by rw [l1]; simp), l1]
  have l3 : m3.length = 64 := by rw [hm3]; unfold setS; rw [setN_length _ (by rw [l2]; omega), l2]
  have hB : beginB s ks = sealS m3 := by rw [hm3, hm2, hm1, hm0]; rfl
  have a1 : sub m3 4 4 = numB s 4 := by
    rw [hm3]; unfold setS
    rw [setN_sub_off _ (by rw [l2]; omega) (by omega), hm2]; unfold setS
    rw [setN_sub_off _ (by rw [l1]; simp) (by simp), hm1]; unfold setS
    exact setN_sub_in (l := m0) (a := 4) (size := 4) (ks := [s]) 1 (by rw [l0]; omega) 0 (by omega)
  have a2 : sub m3 8 1 = numB (ks.length : Int) 1 := by
    rw [hm3]; unfold setS
    rw [setN_sub_off _ (by rw [l2]; omega) (by omega), hm2]; unfold setS
    exact setN_sub_in (l := m1) (a := 8) (size := 1) (ks := [(ks.length : Int)]) 1 (by rw [l1]; omega) 0 (by omega)
  have a3 : ∀ j, j < ks.length → sub m3 (10 + j * 2) 2 = numB (ks.getD j 0) 2 := fun j hj => by
    rw [hm3]
    exact setN_sub_in ks.length (by rw [l2]; omega) j hj
  have d1 : dSeq (beginB s ks) = s := by
    show (leN (sub (beginB s ks) 4 4) : Int) = s
    rw [hB, sub_seal l3 (by omega), a1]
    exact leN_numB (by omega) (by show s < 2 ^ 32; omega) (by omega)
  have d2 : ((beginB s ks).getD 8 0).toNat = ks.length := by
    rw [getD_sub (by rw [hB, sealS_length l3]; omega), hB, sub_seal l3 (by omega), a2]
    have := leN_numB (k := (ks.length : Int)) (size := 1) (by omega) (by show _ < (2 : Int) ^ 8; omega) (by omega)
    omega
  have d3 : dTo (beginB s ks) = ks := by
    unfold dTo
    rw [d2]
    apply List.ext_getElem?
    intro j
    unfold numsS
    rw [List.getElem?_map]
    by_cases hj : j < ks.length
    · rw [List.getElem?_range hj]
      show some (leN (sub (beginB s ks) (10 + j * 2) 2) : Int) = ks[j]?
      rw [hB, sub_seal l3 (by omega), a3 j hj]
      have hg : ks.getD j 0 = ks[j] := by rw [List.getD_eq_getElem?_getD, List.getElem?_eq_getElem hj]; rfl
      have hk := f5 ks[j] (List.getElem_mem hj)
      rw [hg, leN_numB hk.1 (by show ks[j] < 2 ^ 16; omega) (by omega), List.getElem?_eq_getElem hj]
    · rw [List.getElem?_eq_none (by simp; omega), List.getElem?_eq_none (by omega)]
      rfl
  have d4 : sealedS (beginB s ks) = true := by rw [hB]; exact sealed_seal l3
  unfold beginsS
  rw [d1, d2, d3, d4, hs]
  simp [f4]
theorem ends_end {s n : Int} (hs : endOk s n = true) : endsS (endB s n) = some (s, n) := by
  have hf : 1 ≤ s ∧ s ≤ 1073741824 ∧ 1 ≤ n ∧ n ≤ 20 := by simpa [endOk] using hs
  obtain ⟨m0, hm0⟩ : ∃ m0, m0 = [68, 79, 78, 69] ++ zerosB 60 := ⟨_, rfl⟩
  have l0 : m0.length = 64 := by rw [hm0]; simp [zerosB]
  obtain ⟨m1, hm1⟩ : ∃ m1, m1 = setS m0 4 4 [s] := ⟨_, rfl⟩
  obtain ⟨m2, hm2⟩ : ∃ m2, m2 = setS m1 8 1 [n] := ⟨_, rfl⟩
  have l1 : m1.length = 64 := by rw [hm1]; unfold setS; rw [setN_length _ (by rw [l0]; simp), l0]
  have l2 : m2.length = 64 := by rw [hm2]; unfold setS; rw [setN_length _ (by rw [l1]; simp), l1]
  have hB : endB s n = sealS m2 := by rw [hm2, hm1, hm0]; rfl
  have a1 : sub m2 4 4 = numB s 4 := by
    rw [hm2]; unfold setS
    rw [setN_sub_off _ (by rw [l1]; simp) (by simp), hm1]; unfold setS
    exact setN_sub_in (l := m0) (a := 4) (size := 4) (ks := [s]) 1 (by rw [l0]; omega) 0 (by omega)
  have a2 : sub m2 8 1 = numB n 1 := by
    rw [hm2]; unfold setS
    exact setN_sub_in (l := m1) (a := 8) (size := 1) (ks := [n]) 1 (by rw [l1]; omega) 0 (by omega)
  have d1 : dSeq (endB s n) = s := by
    show (leN (sub (endB s n) 4 4) : Int) = s
    rw [hB, sub_seal l2 (by omega), a1]
    exact leN_numB (by omega) (by show s < 2 ^ 32; omega) (by omega)
  have d2 : (((endB s n).getD 8 0).toNat : Int) = n := by
    rw [getD_sub (by rw [hB, sealS_length l2]; omega), hB, sub_seal l2 (by omega), a2]
    exact leN_numB (by omega) (by show n < (2 : Int) ^ 8; omega) (by omega)
  have d4 : sealedS (endB s n) = true := by rw [hB]; exact sealed_seal l2
  unfold endsS
  rw [d1, d2, d4, hs]
  simp
theorem begins_zero : beginsS (zerosB 64) = none := by
  have d : dTo (zerosB 64) = [] := by
    unfold dTo
    have : ((zerosB 64).getD 8 0).toNat = 0 := by decide
    rw [this]
    rfl
  have hs : soundS (dSeq (zerosB 64)) [] = false := by simp [soundS]
  unfold beginsS
  rw [d, hs]
  simp
theorem ends_zero : endsS (zerosB 64) = none := by
  have d : dSeq (zerosB 64) = 0 := by decide
  have hs : ∀ n, endOk 0 n = false := fun n => by simp [endOk]
  unfold endsS
  rw [d, hs]
  simp
end Go.Proofs.Ytobhogdndfbniaa
