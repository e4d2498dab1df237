/- The plain law of LogWhole: which transactions log.Find tells of in what was laid. -/
import Derived.Test.YtoikdgoadjedaaaAwake15
set_option linter.unusedVariables false
set_option linter.unusedSimpArgs false
set_option maxRecDepth 100000
namespace Go.Proofs.Ytoikdgoadjedaaa
open Go.EW Go.RowKit

def txN (sz : List UInt8) (i : Nat) : Nat := (sz.getD i 0).toNat % 5 + 1
def toW (i n : Nat) : List Int := (List.range n).map fun k => ((60 + 7 * i + k : Nat) : Int)
def dat (fill : UInt8) (i : Nat) : List UInt8 := fill :: UInt8.ofNat i :: zerosB 62
/-- a transaction's blocks -/
def txB (s0 : Int) (fill : UInt8) (sz : List UInt8) (i : Nat) : List (List UInt8) := beginB (s0 + i) (toW i (txN sz i)) :: (List.replicate (txN sz i) (dat fill i) ++ [endB (s0 + i) (txN sz i : Int)])
theorem txB_length (s0 : Int) (fill : UInt8) (sz : List UInt8) (i : Nat) : (txB s0 fill sz i).length = txN sz i + 2 := by simp [txB]
/-- the blocks of the first m transactions -/
def stW (s0 : Int) (fill : UInt8) (sz : List UInt8) : Nat → List (List UInt8)
  | 0 => []
  | i + 1 => stW s0 fill sz i ++ txB s0 fill sz i
def plW (sz : List UInt8) : Nat → Nat
  | 0 => 0
  | i + 1 => plW sz i + txN sz i + 2
theorem stW_length (s0 : Int) (fill : UInt8) (sz : List UInt8) : ∀ i, (stW s0 fill sz i).length = plW sz i
  | 0 => rfl
  | i + 1 => by rw [stW, List.length_append, stW_length s0 fill sz i, txB_length, plW]; omega
theorem plW_mono (sz : List UInt8) {i j : Nat} (h : i ≤ j) : plW sz i ≤ plW sz j := by
  induction j with
  | zero => have : i = 0 := by omega
            subst this; exact Nat.le_refl _
  | succ j ih =>
    by_cases hij : i = j + 1
    · subst hij; exact Nat.le_refl _
    · have := ih (by omega)
      rw [plW]
      omega
theorem plW_ge (sz : List UInt8) : ∀ i, 3 * i ≤ plW sz i
  | 0 => by simp
  | i + 1 => by have := plW_ge sz i; rw [plW]; unfold txN; omega
theorem toW_length (i n : Nat) : (toW i n).length = n := by simp [toW]
theorem sound_toW {s : Int} {i n : Nat} (h1 : 1 ≤ s) (h2 : s ≤ 1073741824) (hi : i ≤ 13) (hn : 1 ≤ n) (hn5 : n ≤ 5) : soundS s (toW i n) = true := by
  unfold soundS
  simp only [Bool.and_eq_true, decide_eq_true_eq, List.all_eq_true, toW_length]
  refine ⟨⟨fun k hk => ?_, h1, h2⟩, hn, by omega⟩
  have hk' : k < n := by simpa using hk
  have hg : ∀ q, q < n → (toW i n).getD q 0 = ((60 + 7 * i + q : Nat) : Int) := fun q hq => by
    simp [toW, List.getD_eq_getElem?_getD, List.getElem?_map, List.getElem?_range hq]
  unfold goodAt
  rw [hg k hk']
  simp only [Bool.and_eq_true, Bool.not_eq_true', decide_eq_false_iff_not]
  refine ⟨by unfold homeS; rw [decide_eq_true_eq]; omega, fun hm => ?_⟩
  obtain ⟨q, hq, e⟩ := List.getElem_of_mem hm
  have hqk : q < k := by simp [toW_length] at hq; omega
  have e2 : ((toW i n).take k)[q] = ((60 + 7 * i + q : Nat) : Int) := by
    rw [List.getElem_take]
    simp [toW]
  rw [e2] at e
  omega
theorem stW_get {s0 : Int} {fill : UInt8} {sz : List UInt8} {i k : Nat} (hk : k < txN sz i + 2) : ∀ {m : Nat}, i < m → (stW s0 fill sz m)[plW sz i + k]? = (txB s0 fill sz i)[k]?
  | 0, h => by omega
  | m + 1, h => by
    rw [stW]
    by_cases him : i = m
    · subst him
      rw [List.getElem?_append_right (by rw [stW_length]; omega), stW_length]
      congr 1
      omega
    · have hle := plW_mono sz (show i + 1 ≤ m by omega)
      rw [plW] at hle
      rw [List.getElem?_append_left (by rw [stW_length]; omega)]
      exact stW_get hk (by omega)
theorem stW_64 {s0 : Int} {fill : UInt8} {sz : List UInt8} {b : List UInt8} : ∀ {m : Nat}, 1 ≤ s0 → s0 + m ≤ 1073741824 → plW sz m ≤ 40 → b ∈ stW s0 fill sz m → b.length = 64
  | 0, _, _, _, h => by cases h
  | m + 1, h1, h2, h3, h => by
    rw [plW] at h3
    rcases List.mem_append.1 h with h | h
    · exact stW_64 h1 (by omega) (by omega) h
    · rcases List.mem_cons.1 h with h | h
      · subst h; exact beginB_length _ _ (by rw [toW_length]; unfold txN; omega)
      · rcases List.mem_append.1 h with h | h
        · rw [(List.mem_replicate.1 h).2]; rfl
        · rw [List.mem_singleton.1 h]; exact endB_length _ _
/-- what lies q blocks behind the head -/
def laidW (cut : Nat) (st : List (List UInt8)) (q : Nat) : List UInt8 := if q < cut then st.getD q (zerosB 64) else zerosB 64
section
variable {Bl st : List (List UInt8)} {a0 cut m : Nat} {s0 : Int} {fill : UInt8} {sz : List UInt8}
theorem at_laid (hBl : ∀ q, q < 40 → Bl.getD ((a0 + q) % 40) [] = laidW cut st q) {p j : Nat} (h : p + j < 40) : Bl.getD (((a0 + p) % 40 + j) % 40) [] = laidW cut st (p + j) := by
  rw [← hBl _ h]
  congr 1
  omega
theorem laid_get {i k : Nat} (hi : i < m) (hk : k < txN sz i + 2) : laidW cut (stW s0 fill sz m) (plW sz i + k) = if plW sz i + k < cut then (txB s0 fill sz i).getD k (zerosB 64) else zerosB 64 := by
  unfold laidW
  split
  · rw [List.getD_eq_getElem?_getD, stW_get hk hi, ← List.getD_eq_getElem?_getD]
  · rfl
theorem txB_first (i : Nat) : (txB s0 fill sz i).getD 0 (zerosB 64) = beginB (s0 + i) (toW i (txN sz i)) := rfl
theorem txB_last (i : Nat) : (txB s0 fill sz i).getD (txN sz i + 1) (zerosB 64) = endB (s0 + i) (txN sz i : Int) := by
  simp [txB, List.getD_eq_getElem?_getD]
theorem txB_mid {i k : Nat} (hk : k < txN sz i) : (txB s0 fill sz i).getD (k + 1) (zerosB 64) = dat fill i := by
  simp [txB, List.getD_eq_getElem?_getD, List.getElem?_append_left, hk]
theorem tx_whole (hBl : ∀ q, q < 40 → Bl.getD ((a0 + q) % 40) [] = laidW cut (stW s0 fill sz m) q) {i : Nat} (hi : i < m) (hc : plW sz (i + 1) ≤ cut) (h40 : plW sz m ≤ 40) (h1 : 1 ≤ s0) (h2 : s0 + m ≤ 1073741824) :
    txS Bl ((a0 + plW sz i) % 40) (s0 + i) = some (toW i (txN sz i)) := by
  have hm := plW_mono sz (show i + 1 ≤ m by omega)
  have h3 := plW_ge sz m
  have hn : 1 ≤ txN sz i ∧ txN sz i ≤ 5 := by unfold txN; omega
  rw [plW] at hm hc
  have hb : beginsS (Bl.getD ((a0 + plW sz i) % 40 % 40) []) = some (s0 + i, toW i (txN sz i)) := by
    have := at_laid hBl (p := plW sz i) (j := 0) (by omega)
    rw [Nat.add_zero] at this
    rw [this, laid_get hi (by omega), if_pos (by omega), txB_first]
    exact begins_begin (sound_toW (by omega) (by omega) (by omega) hn.1 hn.2)
  have he : endsS (Bl.getD (((a0 + plW sz i) % 40 + ((toW i (txN sz i)).length + 1)) % 40) []) = some (s0 + i, (txN sz i : Int)) := by
    rw [toW_length, at_laid hBl (by omega), laid_get hi (by omega), if_pos (by omega), txB_last]
    exact ends_end (by unfold endOk; rw [decide_eq_true_eq]; omega)
  unfold txS
  rw [hb]
  show (if s0 + (i : Int) = s0 + i then _ else none) = _
  rw [if_pos rfl, he]
  show (if s0 + (i : Int) = s0 + i ∧ (txN sz i : Int) = ((toW i (txN sz i)).length : Int) then _ else none) = _
  rw [if_pos ⟨rfl, by rw [toW_length]⟩]
theorem tx_cut (hBl : ∀ q, q < 40 → Bl.getD ((a0 + q) % 40) [] = laidW cut (stW s0 fill sz m) q) {i : Nat} (hi : i < m) (hc : cut < plW sz (i + 1)) (h40 : plW sz m ≤ 40) (h1 : 1 ≤ s0) (h2 : s0 + m ≤ 1073741824) :
    txS Bl ((a0 + plW sz i) % 40) (s0 + i) = none := by
  have hm := plW_mono sz (show i + 1 ≤ m by omega)
  have h3 := plW_ge sz m
  have hn : 1 ≤ txN sz i ∧ txN sz i ≤ 5 := by unfold txN; omega
  rw [plW] at hm hc
  have h0 := at_laid hBl (p := plW sz i) (j := 0) (by omega)
  rw [Nat.add_zero, laid_get hi (by omega), txB_first] at h0
  unfold txS
  by_cases hp : plW sz i < cut
  · rw [if_pos (by omega)] at h0
    rw [h0, begins_begin (sound_toW (by omega) (by omega) (by omega) hn.1 hn.2)]
    show (if s0 + (i : Int) = s0 + i then _ else none) = _
    have he : endsS (Bl.getD (((a0 + plW sz i) % 40 + ((toW i (txN sz i)).length + 1)) % 40) []) = none := by
      rw [toW_length, at_laid hBl (by omega), laid_get hi (by omega), if_neg (by omega)]
      exact ends_zero
    rw [if_pos rfl, he]
  · rw [if_neg (by omega)] at h0
    rw [h0, begins_zero]
theorem tx_end (hBl : ∀ q, q < 40 → Bl.getD ((a0 + q) % 40) [] = laidW cut (stW s0 fill sz m) q) (hc : plW sz m ≤ cut) (h40 : plW sz m ≤ 40) (h1 : 1 ≤ s0) (h2 : s0 + m ≤ 1073741824) :
    txS Bl ((a0 + plW sz m) % 40) (s0 + m) = none := by
  have h3 := plW_ge sz m
  unfold txS
  by_cases hp : plW sz m < 40
  · have h0 := at_laid hBl (p := plW sz m) (j := 0) (by omega)
    have hz : laidW cut (stW s0 fill sz m) (plW sz m) = zerosB 64 := by
      unfold laidW
      split
      · rw [List.getD_eq_getElem?_getD, List.getElem?_eq_none (by rw [stW_length]; omega)]
        rfl
      · rfl
    rw [Nat.add_zero, Nat.add_zero, hz] at h0
    rw [h0, begins_zero]
  · have hm0 : 0 < m := by
      rcases Nat.eq_zero_or_pos m with h | h
      · subst h; rw [plW] at hp; omega
      · exact h
    have hn : 1 ≤ txN sz 0 ∧ txN sz 0 ≤ 5 := by unfold txN; omega
    have h0 := hBl 0 (by omega)
    have hl := laid_get (cut := cut) (s0 := s0) (fill := fill) (sz := sz) (i := 0) (k := 0) hm0 (by omega)
    rw [plW, Nat.add_zero, if_pos (by omega), txB_first] at hl
    rw [hl] at h0
    have hpos : (a0 + plW sz m) % 40 % 40 = (a0 + 0) % 40 := by omega
    rw [hpos, h0, begins_begin (sound_toW (by omega) (by omega) (by omega) hn.1 hn.2)]
    show (if s0 + ((0 : Nat) : Int) = s0 + m then _ else none) = _
    rw [if_neg (by omega)]
theorem find_laid (hBl : ∀ q, q < 40 → Bl.getD ((a0 + q) % 40) [] = laidW cut (stW s0 fill sz m) q) {wh : Nat} (hwm : wh ≤ m) (hwc : plW sz wh ≤ cut) (hstop : wh = m ∨ cut < plW sz (wh + 1)) (h40 : plW sz m ≤ 40) (h1 : 1 ≤ s0) (h2 : s0 + m < 1073741824) :
    ∀ (d i : Nat), i + d = wh → findL Bl ((a0 + plW sz i) % 40) (s0 + i) = ((List.range d).map (fun j => wrS Bl ((a0 + plW sz (i + j)) % 40) (toW (i + j) (txN sz (i + j)))), (a0 + plW sz wh) % 40, s0 + wh)
  | 0, i, hd => by
    have hi : i = wh := by omega
    subst hi
    rw [findL_none]
    · rfl
    · by_cases hm : i = m
      · subst hm
        exact tx_end hBl hwc h40 h1 (by omega)
      · exact tx_cut hBl (by omega) (by rcases hstop with h | h; omega; exact h) h40 h1 (by omega)
  | d + 1, i, hd => by
    have hle := plW_mono sz (show i + 1 ≤ wh by omega)
    have ht := tx_whole hBl (i := i) (by omega) (by omega) h40 h1 (by omega)
    have ih := find_laid hBl hwm hwc hstop h40 h1 h2 d (i + 1) (by omega)
    rw [findL_some (by omega) ht, toW_length]
    have e1 : ((a0 + plW sz i) % 40 + txN sz i + 2) % 40 = (a0 + plW sz (i + 1)) % 40 := by rw [plW]; omega
    have e2 : s0 + (i : Int) + 1 = s0 + ((i + 1 : Nat) : Int) := by omega
    rw [e1, e2, ih, List.range_succ_eq_map, List.map_cons, List.map_map]
    simp only [Nat.add_zero]
    congr 2
    apply List.map_congr_left
    intro j _
    simp only [Function.comp, show i + 1 + j = i + (j + 1) from by omega]
end
end Go.Proofs.Ytoikdgoadjedaaa
