/- Words for DiskBarriers and DiskOrder: what a disk is behind writes. -/
import Derived.Test.YtphnhhcefoghpaaLaws
set_option linter.unusedVariables false
set_option linter.unusedSimpArgs false
set_option maxRecDepth 100000
namespace Go.Proofs.Ytphnhhcefoghpaa
open Go.EW Go.RowKit Go.ChangeShapes Go.WideShapes Go.ChangeAt

/-- the i-th write -/
def bw (T : List (List UInt8)) (a : List UInt8) (i : Nat) : Int × List UInt8 := ((((a.getD i 0).toNat % 7 : Nat) : Int), pad64 (T.getD i []))
def bwL (T : List (List UInt8)) (a : List UInt8) (i : Nat) : List (Int × List UInt8) := (List.range i).map (bw T a)
theorem bwL_succ (T : List (List UInt8)) (a : List UInt8) (i : Nat) : bwL T a (i + 1) = bwL T a i ++ [bw T a i] := by simp [bwL, List.range_succ]
theorem bwL_length (T : List (List UInt8)) (a : List UInt8) (i : Nat) : (bwL T a i).length = i := by simp [bwL]
def lastOf (L : List (Int × List UInt8)) (j : Nat) : List UInt8 := ((putsTo L j).getLast?).getD zeros64
theorem lastOf_snoc (L : List (Int × List UInt8)) (a : Int) (l : List UInt8) : lastOf (L ++ [(a, l)]) = fup (lastOf L) a.toNat l := by
  funext j
  unfold lastOf fup
  rw [putsTo_snoc]
  by_cases h : j = a.toNat
  · rw [if_pos h.symm, if_pos h]; simp
  · rw [if_neg (fun e => h e.symm), if_neg h]; simp
theorem bw_good (T : List (List UInt8)) (a : List UInt8) (i : Nat) : badLen (bwL T a i) = false ∧ badAt 7 (bwL T a i) = false := by
  refine ⟨List.any_eq_false.2 fun p hp => ?_, List.any_eq_false.2 fun p hp => ?_⟩
  · obtain ⟨j, _, rfl⟩ := List.mem_map.1 hp
    simp [bw, pad64_length]
  · obtain ⟨j, _, rfl⟩ := List.mem_map.1 hp
    simp [bw]
    omega
theorem putsTo_length (L : List (Int × List UInt8)) (j : Nat) : (putsTo L j).length ≤ L.length := by
  unfold putsTo
  rw [List.length_map]
  exact List.length_filter_le _ _
theorem keepL_all (S : DS) (j : Nat) : keepL S j (S.opn j).length = nowS S j := by
  unfold keepL nowS
  cases h : S.opn j with
  | nil => rfl
  | cons x r =>
    simp only [Int.toNat_natCast, Nat.min_self, List.length_cons, List.getD_cons_succ]
    rw [List.getLast?_eq_getElem?, List.getD_eq_getElem?_getD]
    simp
theorem keepL_none {S : DS} {j : Nat} (h : S.opn j = []) (k : Int) : keepL S j k = S.last j := by
  unfold keepL
  rw [h]
  simp
/-- behind the writes -/
def putD (n : Nat) (L : List (Int × List UInt8)) : DS := { off := false, left := -1, n := n, last := fun _ => zeros64, opn := fun j => putsTo L j }
theorem putS_free {n : Nat} {L : List (Int × List UInt8)} (h1 : badLen L = false) (h2 : badAt n L = false) : putS (newS n) L = (putD n L, 0) := by
  have : putS (newS n) L = putL (newS n) L := by simp [putS, show (newS n).off = false from rfl, h1, show (newS n).n = n from rfl, h2]
  rw [this, putL_free L (newS n) rfl]
  simp [newS, putD]
theorem barrier_putD (n : Nat) (L : List (Int × List UInt8)) : barrierS (putD n L) = (allS (putD n L), 0) := by
  have hs : spendS (putD n L) = (putD n L, 0) := by simp [spendS, putD]
  unfold barrierS
  rw [hs]
  rfl
/-- and a barrier -/
def barS (L : List (Int × List UInt8)) : DS := (barrierS (putS (newS 7) L).1).1
theorem bar_facts {L : List (Int × List UInt8)} (h1 : badLen L = false) (h2 : badAt 7 L = false) :
    (putS (newS 7) L).2 = 0 ∧ (barrierS (putS (newS 7) L).1).2 = 0 ∧ (barS L).off = false ∧ (barS L).n = 7 ∧ (barS L).left = -1 ∧ (∀ j, j < 7 → (barS L).opn j = [] ∧ (barS L).last j = lastOf L j) := by
  have hp := putS_free (n := 7) h1 h2
  refine ⟨by rw [hp], by rw [hp, barrier_putD], ?_⟩
  unfold barS
  rw [hp, barrier_putD]
  refine ⟨rfl, rfl, rfl, fun j hj => ?_⟩
  have hj' : j < (putD 7 L).n := hj
  simp only [allS, keepAll, if_pos hj']
  refine ⟨trivial, ?_⟩
  rw [keepL_all]
  rfl
theorem restart_bar {L : List (Int × List UInt8)} (h1 : badLen L = false) (h2 : badAt 7 L = false) (ks : List Int) :
    (restartS (barS L) ks).off = false ∧ (restartS (barS L) ks).n = 7 ∧ ∀ j, j < 7 → nowS (restartS (barS L) ks) j = lastOf L j := by
  obtain ⟨_, _, ho, hn, hl, hj⟩ := bar_facts h1 h2
  refine ⟨rfl, hn, fun j hj7 => ?_⟩
  obtain ⟨e1, e2⟩ := hj j hj7
  simp only [nowS, restartS, keepAll, hn, if_pos hj7, List.getLast?_nil, Option.getD_none]
  rw [keepL_none e1, e2]
end Go.Proofs.Ytphnhhcefoghpaa
