/- Whole numbers as float64: they are added, taken away, multiplied and cut exactly below 2^53. -/
import Derived.Test.YtifmdcjncbbcgaaEff
import Derived.Laws.ComplexArith
set_option linter.unusedVariables false
set_option linter.unusedSimpArgs false
namespace Go.EW
open Ieee

/-- the bits of a whole number -/
def fB (n : Int) : Nat := FloatKind.f64.nearest n
theorem leastPlace_double : double.leastPlace = -1074 := by decide
theorem binade_double : double.binade = 4503599627370496 := by decide
theorem infRung_double : double.infRung = 9218868437227405312 := by decide
theorem signWeight_double : double.signWeight = 9223372036854775808 := by decide
/-- the rung of N -/
def rungOf (N : Nat) : Nat := (N.log2 + 1022) * 4503599627370496 + N * 2 ^ (52 - N.log2)
theorem log2_range {N : Nat} (h0 : 0 < N) : 2 ^ N.log2 ≤ N ∧ N < 2 ^ (N.log2 + 1) := ⟨Nat.log2_self_le (by omega), Nat.lt_log2_self⟩
theorem log2_le {N : Nat} (h0 : 0 < N) (h1 : N < 9007199254740992) : N.log2 ≤ 52 := by
  have := (Nat.log2_lt (by omega : N ≠ 0) (k := 53)).2 (by simpa using h1)
  omega
theorem frac_range {N : Nat} (h0 : 0 < N) (h1 : N < 9007199254740992) : 4503599627370496 ≤ N * 2 ^ (52 - N.log2) ∧ N * 2 ^ (52 - N.log2) < 9007199254740992 := by
  obtain ⟨ha, hb⟩ := log2_range h0
  have hl := log2_le h0 h1
  have e1 : 2 ^ N.log2 * 2 ^ (52 - N.log2) = 4503599627370496 := by rw [← Nat.pow_add, show N.log2 + (52 - N.log2) = 52 from by omega]
  have e2 : 2 ^ (N.log2 + 1) * 2 ^ (52 - N.log2) = 9007199254740992 := by rw [← Nat.pow_add, show N.log2 + 1 + (52 - N.log2) = 53 from by omega]
  refine ⟨by rw [← e1]; exact Nat.mul_le_mul_right _ ha, by rw [← e2]; exact Nat.mul_lt_mul_of_pos_right hb (Nat.two_pow_pos _)⟩
theorem log2_mul_pow {N k : Nat} (h0 : 0 < N) : (N * 2 ^ k).log2 = N.log2 + k := by
  obtain ⟨ha, hb⟩ := log2_range h0
  have hp := Nat.two_pow_pos k
  have h1 : 2 ^ (N.log2 + k) ≤ N * 2 ^ k := by rw [Nat.pow_add]; exact Nat.mul_le_mul_right _ ha
  have h2 : N * 2 ^ k < 2 ^ (N.log2 + k + 1) := by
    rw [show N.log2 + k + 1 = N.log2 + 1 + k from by omega, Nat.pow_add]
    exact Nat.mul_lt_mul_of_pos_right hb hp
  have hne : N * 2 ^ k ≠ 0 := by have := Nat.mul_pos h0 hp; omega
  have h3 := (Nat.log2_lt hne).2 h2
  have h4 := (Nat.le_log2 hne).2 h1
  omega
theorem cut_exact {way : Toward} {neg : Bool} {n drop q : Nat} (hn : n = q * 2 ^ drop) : way.cut neg n drop = q := by
  by_cases hq : q = 0
  · subst hq
    rw [Nat.zero_mul] at hn
    subst hn
    unfold Toward.cut
    have : 0 < 1 <<< min drop (Nat.log2 0 + 2) := by rw [Nat.one_shiftLeft]; exact Nat.two_pow_pos _
    simp only [Nat.zero_div, Nat.zero_mod]
    cases way <;> simp <;> omega
  · have hl : n.log2 = q.log2 + drop := by rw [hn, log2_mul_pow (by omega)]
    have hm : min drop (n.log2 + 2) = drop := by omega
    unfold Toward.cut
    rw [hm, Nat.one_shiftLeft]
    have hp := Nat.two_pow_pos drop
    have e1 : n / 2 ^ drop = q := by rw [hn, Nat.mul_div_cancel _ hp]
    have e2 : n % 2 ^ drop = 0 := by rw [hn, Nat.mul_mod_left]
    simp only [e1, e2]
    cases way <;> simp <;> omega
theorem rung_le {L F : Nat} (hL : L ≤ 52) (hF : F < 9007199254740992) : (L + 1022) * 4503599627370496 + F ≤ 9218868437227405312 := by omega
theorem nearest_of {neg : Bool} {N k : Nat} (h0 : 0 < N) (h1 : N < 9007199254740992) : double.nearest neg (N * 2 ^ k) (-(k : Int)) = double.word neg (rungOf N) := by
  have hl := log2_le h0 h1
  obtain ⟨f1, f2⟩ := frac_range h0 h1
  have hne : N * 2 ^ k ≠ 0 := by have := Nat.mul_pos h0 (Nat.two_pow_pos k); omega
  unfold Format.nearest
  rw [if_neg hne, log2_mul_pow h0, leastPlace_double, binade_double, infRung_double]
  have e0 : max (-(k : Int) + ((N.log2 + k : Nat) : Int) - ((double.fractionBits : Nat) : Int)) (-1074) = (N.log2 : Int) - 52 := by
    show max (-(k : Int) + ((N.log2 + k : Nat) : Int) - 52) (-1074) = _
    omega
  simp only [e0]
  have hkept : Toward.even.cut neg ((N * 2 ^ k) <<< (-(k : Int) - ((N.log2 : Int) - 52)).toNat) ((N.log2 : Int) - 52 - -(k : Int)).toNat = N * 2 ^ (52 - N.log2) := by
    apply cut_exact
    rw [Nat.shiftLeft_eq, Nat.mul_assoc, Nat.mul_assoc, ← Nat.pow_add, ← Nat.pow_add]
    congr 2
    omega
  rw [hkept]
  have e3 : ((N.log2 : Int) - 52 - -1074).toNat = N.log2 + 1022 := by omega
  rw [e3]
  refine congrArg (double.word neg) ?_
  unfold rungOf
  exact Nat.min_eq_left (rung_le hl f2)
theorem read_of {neg : Bool} {N : Nat} (h0 : 0 < N) (h1 : N < 9007199254740992) : double.read (double.word neg (rungOf N)) = .number neg (N * 2 ^ (52 - N.log2)) (-((52 - N.log2 : Nat) : Int)) := by
  have hl := log2_le h0 h1
  obtain ⟨f1, f2⟩ := frac_range h0 h1
  have hr1 : rungOf N < 9218868437227405312 := by
    unfold rungOf
    have : (N.log2 + 1022) * 4503599627370496 ≤ 1074 * 4503599627370496 := Nat.mul_le_mul_right _ (by omega)
    omega
  have hr0 : 4503599627370496 ≤ rungOf N := by unfold rungOf; omega
  have hd : rungOf N / 4503599627370496 = N.log2 + 1023 := by unfold rungOf; omega
  have hm : rungOf N % 4503599627370496 = N * 2 ^ (52 - N.log2) - 4503599627370496 := by unfold rungOf; omega
  unfold Format.read
  rw [signWeight_double, binade_double, infRung_double, leastPlace_double]
  have hw1 : double.word neg (rungOf N) / 9223372036854775808 % 2 = if neg then 1 else 0 := by
    unfold Format.word
    rw [signWeight_double]
    cases neg <;> simp <;> omega
  have hw2 : double.word neg (rungOf N) % 9223372036854775808 = rungOf N := by
    unfold Format.word
    rw [signWeight_double]
    cases neg <;> simp <;> omega
  simp only [hw1, hw2]
  rw [if_neg (by omega), if_pos hr1, hd, hm]
  have e1 : ((if neg = true then 1 else 0 : Nat) == 1) = neg := by cases neg <;> rfl
  rw [e1, show 4503599627370496 + (N * 2 ^ (52 - N.log2) - 4503599627370496) = N * 2 ^ (52 - N.log2) from by omega, show (-1074 : Int) + ((N.log2 + 1023 - 1 : Nat) : Int) = -((52 - N.log2 : Nat) : Int) from by omega]
/-- how a whole number is read: exact -/
theorem read_fB {n : Int} (h1 : n.natAbs < 9007199254740992) : ∃ k : Nat, double.read (fB n) = .number (decide (n < 0)) (n.natAbs * 2 ^ k) (-(k : Int)) := by
  by_cases h0 : n = 0
  · subst h0
    refine ⟨1074, ?_⟩
    have : fB 0 = 0 := by decide
    have e : ∀ m : Nat, (0 : Int).natAbs * m = 0 := fun m => Nat.zero_mul m
    rw [this, e]
    decide
  · have hp : 0 < n.natAbs := by omega
    refine ⟨52 - n.natAbs.log2, ?_⟩
    have h2 := nearest_of (neg := decide (n < 0)) (k := 0) hp h1
    rw [Nat.pow_zero, Nat.mul_one] at h2
    have h3 : fB n = double.word (decide (n < 0)) (rungOf n.natAbs) := h2
    rw [h3, read_of hp h1]
theorem write_fB {n : Int} {k : Nat} (h1 : n.natAbs < 9007199254740992) : double.write (.number (decide (n < 0)) (n.natAbs * 2 ^ k) (-(k : Int))) = fB n := by
  show double.nearest _ _ _ = fB n
  by_cases h0 : n = 0
  · subst h0
    unfold Format.nearest
    rw [if_pos (by simp)]
    decide
  · have hp : 0 < n.natAbs := by omega
    rw [nearest_of hp h1]
    have h2 := nearest_of (neg := decide (n < 0)) (k := 0) hp h1
    rw [Nat.pow_zero, Nat.mul_one] at h2
    exact h2.symm
theorem signed_of {n : Int} {k up : Nat} : signed (decide (n < 0)) (n.natAbs * 2 ^ k) up = n * ((2 ^ (k + up) : Nat) : Int) := by
  unfold signed
  have e : (n.natAbs * 2 ^ k) <<< up = n.natAbs * 2 ^ (k + up) := by rw [Nat.shiftLeft_eq, Nat.mul_assoc, ← Nat.pow_add]
  rw [e]
  by_cases h : n < 0
  · rw [decide_eq_true h, if_pos rfl, Int.natCast_mul, show ((n.natAbs : Nat) : Int) = -n from by omega, Int.neg_mul, Int.neg_neg]
  · rw [decide_eq_false h, if_neg (by simp), Int.natCast_mul, show ((n.natAbs : Nat) : Int) = n from by omega]
theorem signed_opp {n : Int} {k up : Nat} : signed (!decide (n < 0)) (n.natAbs * 2 ^ k) up = -n * ((2 ^ (k + up) : Nat) : Int) := by
  unfold signed
  have e : (n.natAbs * 2 ^ k) <<< up = n.natAbs * 2 ^ (k + up) := by rw [Nat.shiftLeft_eq, Nat.mul_assoc, ← Nat.pow_add]
  rw [e]
  by_cases h : n < 0
  · rw [decide_eq_true h, Int.natCast_mul, show ((n.natAbs : Nat) : Int) = -n from by omega]
    simp
  · rw [decide_eq_false h, Int.natCast_mul, show ((n.natAbs : Nat) : Int) = n from by omega]
    simp [Int.neg_mul]
theorem total_of {s t : Bool} {a b : Int} {ka kb : Nat} (hst : (a + b) * ((2 ^ max ka kb : Nat) : Int) = 0 → (s && t) = false) :
    Datum.number (if (a + b) * ((2 ^ max ka kb : Nat) : Int) = 0 then s && t else decide ((a + b) * ((2 ^ max ka kb : Nat) : Int) < 0)) ((a + b) * ((2 ^ max ka kb : Nat) : Int)).natAbs (min (-(ka : Int)) (-(kb : Int)))
      = .number (decide (a + b < 0)) ((a + b).natAbs * 2 ^ max ka kb) (-((max ka kb : Nat) : Int)) := by
  have hp : (0 : Int) < ((2 ^ max ka kb : Nat) : Int) := by have := Nat.two_pow_pos (max ka kb); omega
  congr 1
  · split
    · rename_i h
      rw [hst h]
      have : a + b = 0 := by
        rcases Int.mul_eq_zero.1 h with h | h
        · exact h
        · omega
      rw [this]
      rfl
    · rw [decide_eq_decide]
      constructor
      · intro h
        rcases Int.lt_or_le (a + b) 0 with h' | h'
        · exact h'
        · have := Int.mul_nonneg h' (Int.le_of_lt hp); omega
      · intro h
        exact Int.mul_neg_of_neg_of_pos h hp
  · rw [Int.natAbs_mul, Int.natAbs_natCast]
  · omega
theorem f_add {a b : Int} (ha : a.natAbs < 9007199254740992) (hb : b.natAbs < 9007199254740992) (hab : (a + b).natAbs < 9007199254740992) : double.add (fB a) (fB b) = some (fB (a + b)) := by
  obtain ⟨ka, ea⟩ := read_fB ha
  obtain ⟨kb, eb⟩ := read_fB hb
  unfold Format.add
  rw [ea, eb]
  unfold Datum.sum
  simp only [signed_of]
  have e1 : ka + (-(ka : Int) - min (-(ka : Int)) (-(kb : Int))).toNat = max ka kb := by omega
  have e2 : kb + (-(kb : Int) - min (-(ka : Int)) (-(kb : Int))).toNat = max ka kb := by omega
  rw [e1, e2, ← Int.add_mul]
  rw [total_of (fun h => ?_)]
  · show some (double.write _) = _
    rw [write_fB hab]
  · have hp : (0 : Int) < ((2 ^ max ka kb : Nat) : Int) := by have := Nat.two_pow_pos (max ka kb); omega
    have h0 : a + b = 0 := by
      rcases Int.mul_eq_zero.1 h with h | h
      · exact h
      · omega
    by_cases h1 : a < 0
    · rw [decide_eq_false (show ¬ b < 0 by omega)]; simp
    · rw [decide_eq_false h1]; simp
theorem f_sub {a b : Int} (ha : a.natAbs < 9007199254740992) (hb : b.natAbs < 9007199254740992) (hab : (a - b).natAbs < 9007199254740992) : double.sub (fB a) (fB b) = some (fB (a - b)) := by
  obtain ⟨ka, ea⟩ := read_fB ha
  obtain ⟨kb, eb⟩ := read_fB hb
  unfold Format.sub
  rw [ea, eb]
  unfold Datum.sum Datum.opposite
  simp only [signed_of, signed_opp]
  have e1 : ka + (-(ka : Int) - min (-(ka : Int)) (-(kb : Int))).toNat = max ka kb := by omega
  have e2 : kb + (-(kb : Int) - min (-(ka : Int)) (-(kb : Int))).toNat = max ka kb := by omega
  rw [e1, e2, ← Int.add_mul]
  rw [total_of (fun h => ?_)]
  · show some (double.write _) = _
    rw [show a + -b = a - b from by omega, write_fB hab]
  · have hp : (0 : Int) < ((2 ^ max ka kb : Nat) : Int) := by have := Nat.two_pow_pos (max ka kb); omega
    have h0 : a + -b = 0 := by
      rcases Int.mul_eq_zero.1 h with h | h
      · exact h
      · omega
    by_cases h1 : a < 0
    · rw [decide_eq_true (show b < 0 by omega)]; simp
    · rw [decide_eq_false h1]; simp
theorem f_mul {a b : Int} (ha0 : 0 ≤ a) (hb0 : 0 ≤ b) (ha : a.natAbs < 9007199254740992) (hb : b.natAbs < 9007199254740992) (hab : (a * b).natAbs < 9007199254740992) : double.mul (fB a) (fB b) = some (fB (a * b)) := by
  obtain ⟨ka, ea⟩ := read_fB ha
  obtain ⟨kb, eb⟩ := read_fB hb
  unfold Format.mul
  rw [ea, eb]
  unfold Datum.product
  have hab0 := Int.mul_nonneg ha0 hb0
  rw [decide_eq_false (show ¬ a < 0 by omega), decide_eq_false (show ¬ b < 0 by omega)]
  show some (double.write _) = _
  have e : Datum.number (false ^^ false) (a.natAbs * 2 ^ ka * (b.natAbs * 2 ^ kb)) (-(ka : Int) + -(kb : Int)) = .number (decide (a * b < 0)) ((a * b).natAbs * 2 ^ (ka + kb)) (-((ka + kb : Nat) : Int)) := by
    rw [decide_eq_false (show ¬ a * b < 0 by omega)]
    congr 1
    · rw [Int.natAbs_mul, Nat.pow_add]
      ac_rfl
    · omega
  rw [e, write_fB hab]
theorem f_toInt {a : Int} (ha : a.natAbs < 9007199254740992) : (FloatKind.f64.decode (fB a)).toInt .zero = some a := by
  obtain ⟨k, e⟩ := read_fB ha
  show (double.read (fB a)).toInt .zero = some a
  rw [e]
  unfold Datum.toInt Datum.integral
  simp only
  have e1 : Toward.zero.cut (decide (a < 0)) ((a.natAbs * 2 ^ k) <<< (-(k : Int)).toNat) (- -(k : Int)).toNat = a.natAbs := by
    apply cut_exact
    rw [show (-(k : Int)).toNat = 0 from by omega, Nat.shiftLeft_zero, show (- -(k : Int)).toNat = k from by omega]
  rw [e1]
  have := signed_of (n := a) (k := 0) (up := 0)
  simp only [Nat.pow_zero, Nat.mul_one, Nat.add_zero] at this
  rw [this]
  simp
end Go.EW
